/- Walk over request.writer's run. Conditions: sums of lengths up to 2^47. (written by gen_rqwr.py) -/
import Derived.Test.YtdgmkmadlnmhbaaRqb
set_option linter.unusedVariables false
set_option linter.unusedSimpArgs false
namespace Sb
def optQ (b : Bool) (r : Wr) : Wr := if b then r else .ok []
/-- a run's flags -/
def flP (p : Par) : Nat := fl7 (decide (0 < p.values.length)) p.skip p.paged p.resumed p.serially p.timed (decide (0 < p.names.length))
def noB (f : Nat) : Bool := Go.bits .andNot .u8 (f : Int) 48 == 0
def runOk (batch : Bool) (p : Par) : Bool := ((p.names.length == 0) || (p.names.length == p.values.length)) && (!batch || noB (flP p))
/-- a run's bytes -/
def runQ (batch : Bool) (p : Par) : Wr :=
  bothW (cons p.cons) (bothW (mustQ (runOk batch p)) (bothW (.ok (enc 1 (flP p))) (bothW (optQ (decide (0 < p.values.length)) (valsQ p.names p.values)) (bothW (optQ p.paged (.ok (enc 4 (p.page % 4294967296).toNat)))
    (bothW (optQ p.resumed (value p.state)) (bothW (optQ p.serially (cons p.serial)) (optQ p.timed (.ok (enc 8 (p.time % 18446744073709551616).toNat)))))))))
theorem cons_w (c : Nat) : lenW (cons c) ≤ 2 := by
  unfold cons
  split
  · exact Nat.zero_le _
  · simp [lenW, enc_length]
theorem cons_ne8 {c : Nat} {e : Int} (h : cons c = .error e) : e ≠ 0 := by
  unfold cons at h
  split at h
  · injection h with h; omega
  · cases h
theorem vals_le (names : List B) (l : List Val) : lenW (valsQ names l) ≤ 2 + costE (elsQ names l) := by
  unfold valsQ
  have h1 := lenW_both (cntQ l.length) (putsM (entQ (decide (names ≠ []))) (elsQ names l))
  have h2 := cnt_len l.length
  have h3 := puts_le (decide (names ≠ [])) (elsQ names l)
  omega
theorem opt_le {b : Bool} {r : Wr} {n : Nat} (h : lenW r ≤ n) : lenW (optQ b r) ≤ n := by cases b; exact Nat.zero_le _; exact h
end Sb
namespace Go.Proofs.Sb
open Go.RowKit _root_.Sb
/-- along run: the writer, and the run's box Z -/
structure RunW (W : World) (T : Nat → Prop) (w : World) (Y : Nat) (s : Wr) (T' : Nat → Prop) (Z : Nat) (vs : List Value) : Prop where
  ws : WS W T w Y s T'
  box : Bx (fun b => b = Z) w Z vs
  nin : ¬ T' Z
section
variable {W w w' : World} {T T' T2 : Nat → Prop} {Y Z : Nat} {s s' : Wr} {vs : List Value}
theorem RunW.step (h : RunW W T w Y s T' Z vs) (k : WS w T' w' Y s' T2) : RunW W T w' Y s' T2 Z vs :=
  ⟨h.ws.trans k, k.kept goesBx h.box fun b e => e ▸ h.nin, fun e => by rcases k.own _ e with h1 | h1; exact h.nin h1; have := h.box.lt; omega⟩
theorem RunW.after (h : RunW W T w Y s T' Z vs) (hb : Below w.heap.size w w') : RunW W T w' Y s T' Z vs := ⟨h.ws.after hb, h.box.after hb, h.nin⟩
theorem RunW.as (h : RunW W T w Y s T' Z vs) (e : s = s') : RunW W T w Y s' T' Z vs := e ▸ h
end
theorem fl7_and0 : ∀ a b c d e f g : Bool, (bits .and .u8 ((fl7 a b c d e f g : Nat) : Int) 1 != 0) = a := by decide +kernel
set_option maxHeartbeats 8000000 in
set_option maxRecDepth 100000 in
theorem wrun_any {S T : Nat → Prop} {w : World} {Y : Nat} {s : Wr} {p : Par} {batch : Bool} {A1 : Option Addr} {n1 c1 : Nat} {A2 : Option Addr} {n2 c2 : Nat} {A3 : Option Addr} {n3 c3 : Nat} (h : WrAt T w Y s) (hp : ParR S w A1 n1 c1 A2 n2 c2 A3 n3 c3 p.values p.names p.state.bytes) (hS : ∀ b, S b → b < w.heap.size ∧ ¬ T b)
    (hc : p.cons < 65536) (hsr : p.serial < 65536) (hpg : -2147483648 ≤ p.page ∧ p.page ≤ 2147483647) (htm : -9223372036854775808 ≤ p.time ∧ p.time ≤ 9223372036854775807) (hl : lenW s + 2 * costE (elsQ p.names p.values) + p.state.bytes.length ≤ 140737488340000) :
    Calls Try.prog 20 #[.pointer (some ⟨Y, 0, none⟩), .agg (parV p A1 n1 c1 A2 n2 c2 A3 n3 c3).toArray, .bool batch] w fun e w' => e = .returned (.tuple #[]) ∧ ∃ T', WS w T w' Y (bothW s (runQ batch p)) T' := by
  have hT := h.lt
  have HA := Lib.hid (WS.refl h); clear h
  have HP := Lib.hid hp; clear hp
  have HS := Lib.hid hS; clear hS
  have HS9 := Lib.hid (fun b (h : S b) => (HS.out b h).2)
  have HT := Lib.hid hT; clear hT
  have HPG := Lib.hid hpg; clear hpg
  have HTM := Lib.hid htm; clear htm
  have hn1 := HP.out.values.len
  have hn2 := HP.out.names.len
  have HN1 := Lib.hid hn1; clear hn1
  have HN2 := Lib.hid hn2; clear hn2
  have h3 : n3 = p.state.bytes.length := HP.out.state.len
  have HN3 := Lib.hid h3; clear h3
  obtain ⟨cs, vl, nm, sk, pd, pg, rs, sv, sl, sr, td, tm⟩ := p
  replace hc : cs < 65536 := hc
  replace hsr : sr < 65536 := hsr
  replace hl : lenW s + 2 * costE (elsQ nm vl) + sv.bytes.length ≤ 140737488340000 := hl
  replace HP : Hid (ParR S w A1 n1 c1 A2 n2 c2 A3 n3 c3 vl nm sv.bytes) := HP
  replace HPG : Hid (-2147483648 ≤ pg ∧ pg ≤ 2147483647) := HPG
  replace HTM : Hid (-9223372036854775808 ≤ tm ∧ tm ≤ 9223372036854775807) := HTM
  replace HN1 : Hid (n1 = vl.length) := HN1
  replace HN2 : Hid (n2 = nm.length) := HN2
  replace HN3 : Hid (n3 = sv.bytes.length) := HN3
  obtain ⟨rc, hrc⟩ : ∃ x, x = cons cs := ⟨_, rfl⟩
  obtain ⟨ok, hok⟩ : ∃ x, x = runOk batch ⟨cs, vl, nm, sk, pd, pg, rs, sv, sl, sr, td, tm⟩ := ⟨_, rfl⟩
  obtain ⟨f, hf⟩ : ∃ x, x = flP ⟨cs, vl, nm, sk, pd, pg, rs, sv, sl, sr, td, tm⟩ := ⟨_, rfl⟩
  obtain ⟨b0, hb0⟩ : ∃ x, x = decide (0 < n1) := ⟨_, rfl⟩
  obtain ⟨V, hV⟩ : ∃ x, x = valsQ nm vl := ⟨_, rfl⟩
  have hVl : lenW V ≤ 2 + costE (elsQ nm vl) := by rw [hV]; exact vals_le nm vl
  have HTOT : Hid (bothW s (runQ batch ⟨cs, vl, nm, sk, pd, pg, rs, sv, sl, sr, td, tm⟩) = bothW (bothW (bothW (bothW (bothW (bothW (bothW (bothW s rc) (mustQ ok)) (.ok (enc 1 f))) (optQ b0 V)) (optQ pd (.ok (enc 4 (pg % 4294967296).toNat)))) (optQ rs (value sv))) (optQ sl (cons sr))) (optQ td (.ok (enc 8 (tm % 18446744073709551616).toNat)))) := Lib.hid (by rw [hrc, hok, hf, hb0, HN1.out, hV]; simp only [bothW_assoc]; rfl)
  have hf128 : f < 128 := by rw [hf]; exact fl7_lt _ _ _ _ _ _ _
  have HFE : Hid (fl7 (decide (0 < n1)) sk pd rs sl td (decide (0 < n2)) = f) := Lib.hid (by rw [hf, HN1.out, HN2.out]; rfl)
  have hand : (bits .and .u8 (f : Int) 1 != 0) = b0 := by rw [hb0, ← HFE.out]; exact fl7_and0 _ _ _ _ _ _ _
  obtain ⟨a48, ha48⟩ : ∃ a, bits .andNot .u8 (f : Int) 48 = a := ⟨_, rfl⟩
  have HOK : Hid (ok = ((((n2 : Int) == 0) || ((n2 : Int) == (n1 : Int))) && (!batch || (a48 == 0)))) := Lib.hid (by
    rw [hok]
    have e1 : ((n2 : Int) == 0) = (n2 == 0) := by rw [Bool.eq_iff_iff]; simp
    have e2 : ((n2 : Int) == (n1 : Int)) = (n2 == n1) := by rw [Bool.eq_iff_iff]; simp; omega
    rw [e1, e2, HN1.out, HN2.out, ← ha48, hf]
    rfl)
  have HNMO : Hid (ok = true → nm = [] ∨ nm.length = vl.length) := Lib.hid (fun h => by
    rw [hok] at h
    unfold runOk at h
    simp only [Bool.and_eq_true, Bool.or_eq_true, beq_iff_eq] at h
    rcases h.1 with h1 | h1
    · exact .inl (List.length_eq_zero_iff.1 h1)
    · exact .inr h1)
  have HND := Lib.hid hand; clear hand
  clear hok hf hb0
  have HRC := Lib.hid hrc; clear hrc
  have HVE := Lib.hid hV; clear hV
  have HA48 := Lib.hid ha48; clear ha48
  rw [HTOT.out]
  simp only [parV]
  go_enter Try.func20, Try.ntmps20
  go_upto_region 1 with fail
  have I0 : Hid (RunW w T (w.alloc (.cells [.int .u16 (cs : Int), .slice A1 n1 c1, .slice A2 n2 c2, .bool sk, .bool pd, .int .i32 pg, .bool rs, .int .i64 sv.kind, .slice A3 n3 c3, .bool sl, .int .u16 (sr : Int), .bool td, .int .i64 tm].toArray 30)) Y s T w.heap.size [.int .u16 (cs : Int), .slice A1 n1 c1, .slice A2 n2 c2, .bool sk, .bool pd, .int .i32 pg, .bool rs, .int .i64 sv.kind, .slice A3 n3 c3, .bool sl, .int .u16 (sr : Int), .bool td, .int .i64 tm]) := Lib.hid ⟨HA.out.after (by repeat (first | exact Below.refl _ _ | assumption | refine Below.drew ?_ | refine below_drewN ?_ _ | refine Below.alloc ?_ (by first | (simp; done) | omega | (simp; omega)) _ | refine Below.setCell ?_ (by first | (simp; done) | omega | (simp; omega)) _)), Bx.alloc w [.int .u16 (cs : Int), .slice A1 n1 c1, .slice A2 n2 c2, .bool sk, .bool pd, .int .i32 pg, .bool rs, .int .i64 sv.kind, .slice A3 n3 c3, .bool sl, .int .u16 (sr : Int), .bool td, .int .i64 tm].toArray 30 (S := fun b => b = w.heap.size) rfl rfl, fun e => by have := HT.out _ e; omega⟩
  go_wp2_with fail
  refine (consis_any (cs : Int) _ (by omega) (by omega) (cons cs) rfl).mono ?_
  rintro e1 w1 ⟨A5, m5, c5, rfl, ho, hb⟩
  have HO := Lib.hid ho.slb; clear ho
  have I1 := Lib.hid (I0.out.after hb); clear hb
  have hlv : (wval (cons cs)).length ≤ 2 := by rw [lenW_val]; exact cons_w _
  have HRN := Lib.hid (fun x (e : cons cs = .error x) => cons_ne8 e)
  rw [← HRC.out] at HO hlv HRN ⊢
  go_wp2_with fail
  refine (wput_any I1.out.ws.at' HO.out rc rfl (fun b e => by rw [e]; rfl) HRN.out (by omega)).mono ?_
  rintro e2 w2 ⟨rfl, T2, hk2⟩
  have I2 := Lib.hid (I1.out.step hk2); clear hk2
  obtain ⟨s2, hs2⟩ : ∃ x, x = bothW s rc := ⟨_, rfl⟩
  have hls2 : lenW s2 ≤ lenW s + 2 := by rw [hs2]; have h1 := lenW_both s rc; rw [lenW_val] at hlv; omega
  rw [← hs2] at I2
  have HS2 := Lib.hid hs2; clear hs2
  clear hlv
  go_wp2_with (first | (refine wpList_loadB I2.out.box (by rfl) 30 _ (by rfl) (by rfl) _ Try.underlying30 rfl (by kernel_rfl) ?_))
  refine (wflags_any (p := ⟨cs, vl, nm, sk, pd, pg, rs, sv, sl, sr, td, tm⟩) (A1 := A1) (n1 := n1) (c1 := c1) (A2 := A2) (n2 := n2) (c2 := c2) (A3 := A3) (n3 := n3) (c3 := c3)).mono ?_
  rintro e3 w3 ⟨rfl, hb3⟩
  rw [HFE.out]
  have I3 := Lib.hid (I2.out.after hb3); clear hb3
  have k1 := I3.out.box.c 1 _ rfl
  have k2 := I3.out.box.c 2 _ rfl
  have q2 := I3.out.box.lt
  have ha48 := HA48.out
  go_upto_region 3 with fail

  obtain ⟨s3, hs3⟩ : ∃ x, x = bothW s2 (mustQ ok) := ⟨_, rfl⟩
  have HS3 := Lib.hid hs3; clear hs3
  go_cut [] (fun wx => ∃ T', Hid (RunW w T wx Y s3 T' w.heap.size [.int .u16 (cs : Int), .slice A1 n1 c1, .slice A2 n2 c2, .bool sk, .bool pd, .int .i32 pg, .bool rs, .int .i64 sv.kind, .slice A3 n3 c3, .bool sl, .int .u16 (sr : Int), .bool td, .int .i64 tm]))
  case first =>
    by_cases e20 : n2 = 0
    · subst e20
      cases batch with
      | false =>
        have hk : ok = true := by rw [HOK.out]; simp []
        go_wp2_with fail
        refine (wmust_any (is := true) I3.out.ws.at' (by omega)).mono ?_
        rintro e5 w5 ⟨rfl, T5, hk5⟩
        have I5 := Lib.hid (I3.out.step hk5)
        go_wp2_with fail
        go_meet
        exact ⟨T5, I5.out.as (by rw [HS3.out, hk])⟩
      | true =>
        cases h48 : (a48 == 0) with
        | false =>
          have hk : ok = false := by rw [HOK.out]; simp [h48]
          go_wp2_with fail
          refine (wmust_any (is := false) I3.out.ws.at' (by omega)).mono ?_
          rintro e5 w5 ⟨rfl, T5, hk5⟩
          have I5 := Lib.hid (I3.out.step hk5)
          go_wp2_with fail
          go_meet
          exact ⟨T5, I5.out.as (by rw [HS3.out, hk])⟩
        | true =>
          have hk : ok = true := by rw [HOK.out]; simp [h48]
          go_wp2_with fail
          refine (wmust_any (is := true) I3.out.ws.at' (by omega)).mono ?_
          rintro e5 w5 ⟨rfl, T5, hk5⟩
          have I5 := Lib.hid (I3.out.step hk5)
          go_wp2_with fail
          go_meet
          exact ⟨T5, I5.out.as (by rw [HS3.out, hk])⟩
    · by_cases e21 : n2 = n1
      · subst e21
        have h20 : ((n2 : Int) == 0) = false := by simp; omega
        clear e20
        cases batch with
        | false =>
          have hk : ok = true := by rw [HOK.out]; simp [h20]
          go_wp2_with fail
          refine (wmust_any (is := true) I3.out.ws.at' (by omega)).mono ?_
          rintro e5 w5 ⟨rfl, T5, hk5⟩
          have I5 := Lib.hid (I3.out.step hk5)
          go_wp2_with fail
          go_meet
          exact ⟨T5, I5.out.as (by rw [HS3.out, hk])⟩
        | true =>
          cases h48 : (a48 == 0) with
          | false =>
            have hk : ok = false := by rw [HOK.out]; simp [h20, h48]
            go_wp2_with fail
            refine (wmust_any (is := false) I3.out.ws.at' (by omega)).mono ?_
            rintro e5 w5 ⟨rfl, T5, hk5⟩
            have I5 := Lib.hid (I3.out.step hk5)
            go_wp2_with fail
            go_meet
            exact ⟨T5, I5.out.as (by rw [HS3.out, hk])⟩
          | true =>
            have hk : ok = true := by rw [HOK.out]; simp [h20, h48]
            go_wp2_with fail
            refine (wmust_any (is := true) I3.out.ws.at' (by omega)).mono ?_
            rintro e5 w5 ⟨rfl, T5, hk5⟩
            have I5 := Lib.hid (I3.out.step hk5)
            go_wp2_with fail
            go_meet
            exact ⟨T5, I5.out.as (by rw [HS3.out, hk])⟩
      · have h20 : ((n2 : Int) == 0) = false := by simp; omega
        have h21 : ((n2 : Int) == (n1 : Int)) = false := by simp; omega
        clear e20 e21
        have hk : ok = false := by rw [HOK.out]; simp [h20, h21]
        go_wp2_with fail
        refine (wmust_any (is := false) I3.out.ws.at' (by omega)).mono ?_
        rintro e5 w5 ⟨rfl, T5, hk5⟩
        have I5 := Lib.hid (I3.out.step hk5)
        go_wp2_with fail
        go_meet
        exact ⟨T5, I5.out.as (by rw [HS3.out, hk])⟩
  case rest =>
    obtain ⟨T4, I4⟩ := hcut
    obtain ⟨w4, hwo⟩ : ∃ wo, wo = wc := ⟨_, rfl⟩
    subst hwo
    clear k1 k2 q2 ha48
    have hls3 : lenW s3 ≤ lenW s + 2 := by rw [HS3.out]; have h1 := lenW_both s2 (mustQ ok); have h2 := must_len ok; omega
    have q2 := I4.out.box.lt
    go_wp2_with fail
    refine (wnumber_any (n := 1) (x := (f : Int)) I4.out.ws.at' (by omega) (by omega) (by omega) (by omega) (by omega)).mono ?_
    rintro e5 w5 ⟨rfl, T5, hk5⟩
    obtain ⟨s4, hs4⟩ : ∃ x, x = bothW s3 (.ok (enc 1 f)) := ⟨_, rfl⟩
    have hls4 : lenW s4 ≤ lenW s + 3 := by rw [hs4]; have h1 := lenW_both s3 (.ok (enc 1 f)); have h2 : lenW (.ok (enc 1 f)) = 1 := enc_length _ _; omega
    have I5 := Lib.hid ((I4.out.step hk5).as (s' := s4) (by rw [hs4]; rfl)); clear hk5
    have HS4 := Lib.hid hs4; clear hs4 q2
    have y1 := I5.out.ws.at'.cellE
    have hY : Y < w5.heap.size := I5.out.ws.at'.lt Y I5.out.ws.at'.mem
    cases s4 with
    | error e =>
      have hne := I5.out.ws.at'.ne0
      have hne2 : (e != 0) = true := bne_iff_ne.2 hne
      simp only [werr_error] at y1
      go_wp2_with fail
      refine bodyPost_ret (v := .tuple #[]) (results_none rfl _ _ _) rfl ?_
      exact ⟨rfl, T5, I5.out.ws.as (by rw [← HS2.out, ← HS3.out, ← HS4.out]; rfl)⟩
    | ok b4 =>
      simp only [werr_ok] at y1
      have hokt : ok = true := by
        cases ok with
        | true => rfl
        | false =>
          exfalso
          have h1 := HS3.out
          have h2 := HS4.out
          rw [h1] at h2
          cases s2 <;> simp [mustQ, bothW] at h2
      have HNM := Lib.hid (HNMO.out hokt); clear hokt
      obtain ⟨a1, ha1⟩ : ∃ a, bits .and .u8 (f : Int) 1 = a := ⟨_, rfl⟩
      have ha2 : (a1 != 0) = b0 := by rw [← ha1]; exact HND.out
      have HLV : Hid (lenW (.ok b4) ≤ lenW s + 3) := Lib.hid hls4
      obtain ⟨s5, hs5⟩ : ∃ x, x = bothW (.ok b4) (optQ b0 V) := ⟨_, rfl⟩
      have hls5 : lenW s5 ≤ lenW s + 5 + costE (elsQ nm vl) := by rw [hs5]; have h1 := lenW_both (.ok b4) (optQ b0 V); have h2 := opt_le (b := b0) (r := V) hVl; omega
      have Hs5 := Lib.hid hs5; clear hs5
      have k1 := I5.out.box.c 1 _ rfl
      have k2 := I5.out.box.c 2 _ rfl
      have q2 := I5.out.box.lt

      go_upto_if 51 with fail
      clear y1 hY
      go_cut [] (fun wx => ∃ T', Hid (RunW w T wx Y s5 T' w.heap.size [.int .u16 (cs : Int), .slice A1 n1 c1, .slice A2 n2 c2, .bool sk, .bool pd, .int .i32 pg, .bool rs, .int .i64 sv.kind, .slice A3 n3 c3, .bool sl, .int .u16 (sr : Int), .bool td, .int .i64 tm]))
      case first =>
        cases b0 with
        | false =>
          go_wp2_with fail
          go_meet
          exact ⟨_, I5.out.as (by rw [Hs5.out]; exact (bothQ_nil _).symm)⟩
        | true =>
          have hvr := I5.out.ws.keep goesArrV HP.out.values HS9.out
          have hnr := I5.out.ws.keep goesArr HP.out.names HS9.out
          have HVR := Lib.hid hvr; clear hvr
          have HNR := Lib.hid hnr; clear hnr
          have hsz := I5.out.ws.size
          have HSC := Lib.hid (fun b (hb : S b) => (⟨by have := (HS.out b hb).1; omega, I5.out.ws.not (HS.out b hb).1 (HS.out b hb).2⟩ : b < w5.heap.size ∧ ¬ T5 b))
          go_wp2_with fail
          refine (wvalues_any (l := vl) (names := nm) I5.out.ws.at' HVR.out HNR.out HSC.out HNM.out (by omega)).mono ?_
          rintro e6 w6 ⟨rfl, T6, hk6⟩
          have J2 := Lib.hid (I5.out.step hk6); clear hk6
          go_wp2_with fail
          go_meet
          exact ⟨T6, J2.out.as (by rw [Hs5.out, HVE.out]; rfl)⟩
      case rest =>
        obtain ⟨T7, I7⟩ := hcut
        obtain ⟨w7, hwo⟩ : ∃ wo, wo = wc := ⟨_, rfl⟩
        subst hwo
        clear q2 k1 k2
        obtain ⟨s6, hs6⟩ : ∃ x, x = bothW s5 (optQ pd (.ok (enc 4 (pg % 4294967296).toNat))) := ⟨_, rfl⟩
        have hls6 : lenW s6 ≤ lenW s + 9 + costE (elsQ nm vl) := by rw [hs6]; have h1 := lenW_both s5 (optQ pd (.ok (enc 4 (pg % 4294967296).toNat))); have h2 := opt_le (b := pd) (r := (.ok (enc 4 (pg % 4294967296).toNat))) (n := 4) (by show (enc 4 _).length ≤ 4; rw [enc_length]; omega); omega
        have Hs6 := Lib.hid hs6; clear hs6
        have k4 := I7.out.box.c 4 _ rfl
        have k5 := I7.out.box.c 5 _ rfl
        have q2 := I7.out.box.lt

        go_upto_if 59 with fail
        go_cut [] (fun wx => ∃ T', Hid (RunW w T wx Y s6 T' w.heap.size [.int .u16 (cs : Int), .slice A1 n1 c1, .slice A2 n2 c2, .bool sk, .bool pd, .int .i32 pg, .bool rs, .int .i64 sv.kind, .slice A3 n3 c3, .bool sl, .int .u16 (sr : Int), .bool td, .int .i64 tm]))
        case first =>
          cases pd with
          | false =>
            go_wp2_with fail
            go_meet
            exact ⟨_, I7.out.as (by rw [Hs6.out]; exact (bothQ_nil _).symm)⟩
          | true =>
            have hpg := HPG.out
            go_wp2_with fail
            refine (wnumber_any (n := 4) I7.out.ws.at' (by omega) (by omega) (by omega) (by omega) (by omega)).mono ?_
            rintro e6 w6 ⟨rfl, T6, hk6⟩
            have J2 := Lib.hid (I7.out.step hk6); clear hk6
            go_wp2_with fail
            go_meet
            exact ⟨T6, J2.out.as (by rw [Hs6.out]; rfl)⟩
        case rest =>
          obtain ⟨T8, I8⟩ := hcut
          obtain ⟨w8, hwo⟩ : ∃ wo, wo = wc := ⟨_, rfl⟩
          subst hwo
          clear q2 k4 k5
          obtain ⟨s7, hs7⟩ : ∃ x, x = bothW s6 (optQ rs (value sv)) := ⟨_, rfl⟩
          have hls7 : lenW s7 ≤ lenW s + 13 + costE (elsQ nm vl) + sv.bytes.length := by rw [hs7]; have h1 := lenW_both s6 (optQ rs (value sv)); have h2 := opt_le (b := rs) (r := (value sv)) (value_le sv); omega
          have Hs7 := Lib.hid hs7; clear hs7
          have k6 := I8.out.box.c 6 _ rfl
          have k7 := I8.out.box.c 7 _ rfl
          have k8 := I8.out.box.c 8 _ rfl
          have q2 := I8.out.box.lt

          go_upto_if 67 with fail
          go_cut [] (fun wx => ∃ T', Hid (RunW w T wx Y s7 T' w.heap.size [.int .u16 (cs : Int), .slice A1 n1 c1, .slice A2 n2 c2, .bool sk, .bool pd, .int .i32 pg, .bool rs, .int .i64 sv.kind, .slice A3 n3 c3, .bool sl, .int .u16 (sr : Int), .bool td, .int .i64 tm]))
          case first =>
            cases rs with
            | false =>
              go_wp2_with fail
              go_meet
              exact ⟨_, I8.out.as (by rw [Hs7.out]; exact (bothQ_nil _).symm)⟩
            | true =>
              have HBV := Lib.hid (I8.out.ws.keep goesSl HP.out.state HS9.out)
              have hm3 := HBV.out.len
              have hm4 : n3 ≤ 140737488355324 := by rw [HN3.out]; omega
              clear hm3
              go_wp2_with fail
              refine (value_any (v := sv) HBV.out (by omega) (value sv) rfl).mono ?_
              rintro e5 w5 ⟨A5, m5, c5, rfl, ho, hb⟩
              have HO := Lib.hid ho.slb; clear ho
              have J1 := Lib.hid (I8.out.after hb); clear hb
              have hlv : (wval (value sv)).length ≤ 4 + sv.bytes.length := by rw [lenW_val]; first | exact cons_w _ | exact value_le _
              have HRN := Lib.hid (fun x (e : value sv = .error x) => value_ne e)
              obtain ⟨rv, hrv⟩ : ∃ x, x = value sv := ⟨_, rfl⟩
              rw [← hrv] at HO hlv HRN ⊢
              have HRV := Lib.hid hrv; clear hrv
              go_wp2_with fail
              refine (wput_any J1.out.ws.at' HO.out rv rfl (fun b e => by rw [e]; rfl) HRN.out (by omega)).mono ?_
              rintro e6 w6 ⟨rfl, T6, hk6⟩
              have J2 := Lib.hid (J1.out.step hk6); clear hk6
              go_wp2_with fail
              go_meet
              exact ⟨T6, J2.out.as (by rw [Hs7.out, HRV.out]; rfl)⟩
          case rest =>
            obtain ⟨T9, I9⟩ := hcut
            obtain ⟨w9, hwo⟩ : ∃ wo, wo = wc := ⟨_, rfl⟩
            subst hwo
            clear q2 k6 k7 k8
            obtain ⟨s8, hs8⟩ : ∃ x, x = bothW s7 (optQ sl (cons sr)) := ⟨_, rfl⟩
            have hls8 : lenW s8 ≤ lenW s + 15 + costE (elsQ nm vl) + sv.bytes.length := by rw [hs8]; have h1 := lenW_both s7 (optQ sl (cons sr)); have h2 := opt_le (b := sl) (r := (cons sr)) (cons_w sr); omega
            have Hs8 := Lib.hid hs8; clear hs8
            have k9 := I9.out.box.c 9 _ rfl
            have k10 := I9.out.box.c 10 _ rfl
            have q2 := I9.out.box.lt

            go_upto_if 76 with fail
            go_cut [] (fun wx => ∃ T', Hid (RunW w T wx Y s8 T' w.heap.size [.int .u16 (cs : Int), .slice A1 n1 c1, .slice A2 n2 c2, .bool sk, .bool pd, .int .i32 pg, .bool rs, .int .i64 sv.kind, .slice A3 n3 c3, .bool sl, .int .u16 (sr : Int), .bool td, .int .i64 tm]))
            case first =>
              cases sl with
              | false =>
                go_wp2_with fail
                go_meet
                exact ⟨_, I9.out.as (by rw [Hs8.out]; exact (bothQ_nil _).symm)⟩
              | true =>
                go_wp2_with fail
                refine (consis_any (sr : Int) _ (by omega) (by omega) (cons sr) rfl).mono ?_
                rintro e5 w5 ⟨A5, m5, c5, rfl, ho, hb⟩
                have HO := Lib.hid ho.slb; clear ho
                have J1 := Lib.hid (I9.out.after hb); clear hb
                have hlv : (wval (cons sr)).length ≤ 2 := by rw [lenW_val]; first | exact cons_w _ | exact value_le _
                have HRN := Lib.hid (fun x (e : cons sr = .error x) => cons_ne8 e)
                obtain ⟨rv, hrv⟩ : ∃ x, x = cons sr := ⟨_, rfl⟩
                rw [← hrv] at HO hlv HRN ⊢
                have HRV := Lib.hid hrv; clear hrv
                go_wp2_with fail
                refine (wput_any J1.out.ws.at' HO.out rv rfl (fun b e => by rw [e]; rfl) HRN.out (by omega)).mono ?_
                rintro e6 w6 ⟨rfl, T6, hk6⟩
                have J2 := Lib.hid (J1.out.step hk6); clear hk6
                go_wp2_with fail
                go_meet
                exact ⟨T6, J2.out.as (by rw [Hs8.out, HRV.out]; rfl)⟩
            case rest =>
              obtain ⟨T10, I10⟩ := hcut
              obtain ⟨w10, hwo⟩ : ∃ wo, wo = wc := ⟨_, rfl⟩
              subst hwo
              clear q2 k9 k10
              have k11 := I10.out.box.c 11 _ rfl
              have k12 := I10.out.box.c 12 _ rfl
              have q2 := I10.out.box.lt
              cases td with
              | false =>
                go_wp2_with fail
                refine bodyPost_end (results_none rfl _ _ _) rfl ?_
                exact ⟨rfl, _, I10.out.ws.as (by rw [← bothQ_nil s8, Hs8.out, Hs7.out, Hs6.out, Hs5.out, HS4.out, HS3.out, HS2.out]; rfl)⟩
              | true =>
                have htm := HTM.out
                go_wp2_with fail
                obtain ⟨x8, hx8⟩ : ∃ x, x = IntKind.u64.wrap tm := ⟨_, rfl⟩
                have hx9 : x8 = tm % 18446744073709551616 := by rw [hx8, IntKind.wrap_u64]
                have hx0 : 0 ≤ x8 ∧ x8 < 18446744073709551616 := by rw [hx9]; omega
                rw [← hx8]
                have HX9 := Lib.hid hx9; clear hx9 hx8
                refine (wnumber_any (n := 8) I10.out.ws.at' (by omega) (by omega) (by omega) (by omega) (by omega)).mono ?_
                rintro e6 w6 ⟨rfl, T6, hk6⟩
                have J2 := Lib.hid (I10.out.step hk6); clear hk6
                go_wp2_with fail
                refine bodyPost_end (results_none rfl _ _ _) rfl ?_
                exact ⟨rfl, T6, J2.out.ws.as (by rw [← HX9.out, Hs8.out, Hs7.out, Hs6.out, Hs5.out, HS4.out, HS3.out, HS2.out]; rfl)⟩
end Go.Proofs.Sb
