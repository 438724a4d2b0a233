/- Walk over request.writer's batch. Conditions: sums of lengths up to 2^47. (written by gen_rqwb.py) -/
import Derived.Test.YtdgmkmadlnmhbaaRqd
import Derived.Test.YtdgmkmadlnmhbaaRqw
set_option linter.unusedVariables false
set_option linter.unusedSimpArgs false
namespace Sb
/-- a statement's bytes -/
def stmQ (x : Stm) : Wr := bothW (.ok (enc 1 (if x.prepared then 1 else 0))) (bothW (if x.prepared then text x.ident else .ok (long x.text)) (valsQ [] x.values))
def batchQ (q : Rq) : Wr := bothW (mustQ (decide (q.kind ≤ 2))) (bothW (.ok (enc 1 q.kind)) (bothW (cntQ q.all.length) (bothW (putsM stmQ q.all) (runQ true q.run))))
def costT (x : Stm) : Nat := 65600 + x.ident.length + x.text.length + 2 * costE (elsQ [] x.values)
def costA : List Stm → Nat | [] => 0 | x :: r => costT x + costA r
def costR (p : Par) : Nat := 2 * costE (elsQ p.names p.values) + p.state.bytes.length
theorem long_w (s : B) : (long s).length = 4 + s.length := by unfold long; rw [List.length_append, enc_length]
theorem stm_le (x : Stm) : lenW (stmQ x) ≤ costT x := by
  unfold stmQ costT
  have h1 := lenW_both (.ok (enc 1 (if x.prepared then 1 else 0))) (bothW (if x.prepared then text x.ident else .ok (long x.text)) (valsQ [] x.values))
  have h2 := lenW_both (if x.prepared then text x.ident else .ok (long x.text)) (valsQ [] x.values)
  have h3 := vals_le [] x.values
  have h4 : lenW (.ok (enc 1 (if x.prepared then 1 else 0))) = 1 := enc_length _ _
  have h5 : lenW (if x.prepared then text x.ident else .ok (long x.text)) ≤ 65537 + x.text.length := by
    split
    · have := text_le x.ident; omega
    · show (long x.text).length ≤ _; rw [long_w]; omega
  omega
theorem putsA_le : ∀ l : List Stm, lenW (putsM stmQ l) ≤ costA l
  | [] => Nat.zero_le _
  | p :: r => by
    rw [putsM_cons]
    have h1 := lenW_both (stmQ p) (putsM stmQ r)
    have h2 := stm_le p
    have h3 := putsA_le r
    show _ ≤ costT p + costA r
    omega
theorem costA_take : ∀ (l : List Stm) (k : Nat), costA (l.take k) ≤ costA l
  | [], k => by simp [costA]
  | p :: r, 0 => Nat.zero_le _
  | p :: r, k + 1 => by
    have := costA_take r k
    show costT p + costA (r.take k) ≤ costT p + costA r
    omega
theorem costA_mem : ∀ {l : List Stm} {p : Stm}, p ∈ l → costT p ≤ costA l
  | q :: r, p, h => by
    show _ ≤ costT q + costA r
    rcases List.mem_cons.1 h with rfl | h
    · omega
    · have := costA_mem h; omega
/-- the numbers of a run fit -/
structure ParN (p : Par) : Prop where
  cons : p.cons < 65536
  serial : p.serial < 65536
  page : -2147483648 ≤ p.page ∧ p.page ≤ 2147483647
  time : -9223372036854775808 ≤ p.time ∧ p.time ≤ 9223372036854775807
end Sb
namespace Go.Proofs.Sb
open Go.RowKit _root_.Sb
set_option maxHeartbeats 8000000 in
set_option maxRecDepth 100000 in
theorem wbatch_any {S T : Nat → Prop} {w : World} {Y : Nat} {s : Wr} {q : Rq} {o i r1 r2 r3 ev t al : Slc} (h : WrAt T w Y s) (hq : RqR S w q o i r1 r2 r3 ev t al) (hS : ∀ b, S b → b < w.heap.size ∧ ¬ T b)
    (hkd : q.kind < 256) (hpn : ParN q.run) (hl : lenW s + 2 * costA q.all + costR q.run ≤ 140737488330000) :
    Calls Try.prog 24 #[.pointer (some ⟨Y, 0, none⟩), .agg (rqV q o i r1 r2 r3 ev t al).toArray] w fun e w' => e = .returned (.tuple #[]) ∧ ∃ T', WS w T w' Y (bothW s (batchQ q)) T' := by
  obtain ⟨A4, n4, c4⟩ := al
  have hT := h.lt
  have HA := Lib.hid (WS.refl h); clear h
  have HP := Lib.hid hq; clear hq
  have HS := Lib.hid hS; clear hS
  have HS9 := Lib.hid (fun b (h : S b) => (HS.out b h).2)
  have HT := Lib.hid hT; clear hT
  have HPN := Lib.hid hpn; clear hpn
  have hn4 : n4 = q.all.length := HP.out.all.len
  have hn9 : n4 ≤ 9223372036854775807 := Nat.le_trans HP.out.all.cap HP.out.all.capMax
  have HN4 := Lib.hid hn4; clear hn4
  obtain ⟨l, hl9⟩ : ∃ x, x = q.all := ⟨_, rfl⟩
  obtain ⟨m, hm⟩ : ∃ x, x = mustQ (decide (q.kind ≤ 2)) := ⟨_, rfl⟩
  obtain ⟨cn, hcn⟩ : ∃ x, x = cntQ n4 := ⟨_, rfl⟩
  have HTOT : Hid (bothW s (batchQ q) = bothW (bothW (bothW (bothW (bothW s m) (.ok (enc 1 q.kind))) cn) (putsM stmQ l)) (runQ true q.run)) := Lib.hid (by rw [hm, hcn, hl9, HN4.out]; unfold batchQ; simp only [bothW_assoc])
  have hmL : lenW m = 0 := by rw [hm]; exact must_len _
  have hcL : lenW cn ≤ 2 := by rw [hcn]; exact cnt_len _
  have HM := Lib.hid hm; clear hm
  have HCN := Lib.hid hcn; clear hcn
  have HAL : Hid (Arr 4 (stmP S w) S w A4 n4 c4 l) := Lib.hid (by rw [hl9]; exact HP.out.all)
  have HPL : Hid (∀ k, lenW (putsM stmQ (l.take k)) ≤ costA l) := Lib.hid (fun k => Nat.le_trans (putsA_le _) (costA_take _ _))
  have HLN : Hid (l.length = n4) := Lib.hid (by rw [HN4.out, hl9])
  rw [← hl9] at hl
  clear hl9
  rw [HTOT.out]
  simp only [rqV]
  go_enter Try.func24, Try.ntmps24
  go_upto_region 1 with fail
  have I0 : Hid (RunW w T (w.alloc (.cells [.int .u8 (q.opcode : Int), .slice o.a o.n o.c, .string (str q.text), .slice i.a i.n i.c, .int .u16 (q.run.cons : Int), .slice r1.a r1.n r1.c, .slice r2.a r2.n r2.c, .bool q.run.skip, .bool q.run.paged, .int .i32 q.run.page, .bool q.run.resumed, .int .i64 q.run.state.kind, .slice r3.a r3.n r3.c, .bool q.run.serially, .int .u16 (q.run.serial : Int), .bool q.run.timed, .int .i64 q.run.time, .slice ev.a ev.n ev.c, .int .i64 q.token.kind, .slice t.a t.n t.c, .int .u8 (q.kind : Int), .slice A4 n4 c4].toArray 33)) Y s T w.heap.size [.int .u8 (q.opcode : Int), .slice o.a o.n o.c, .string (str q.text), .slice i.a i.n i.c, .int .u16 (q.run.cons : Int), .slice r1.a r1.n r1.c, .slice r2.a r2.n r2.c, .bool q.run.skip, .bool q.run.paged, .int .i32 q.run.page, .bool q.run.resumed, .int .i64 q.run.state.kind, .slice r3.a r3.n r3.c, .bool q.run.serially, .int .u16 (q.run.serial : Int), .bool q.run.timed, .int .i64 q.run.time, .slice ev.a ev.n ev.c, .int .i64 q.token.kind, .slice t.a t.n t.c, .int .u8 (q.kind : Int), .slice A4 n4 c4]) := Lib.hid ⟨HA.out.after (by repeat (first | exact Below.refl _ _ | assumption | refine Below.drew ?_ | refine below_drewN ?_ _ | refine Below.alloc ?_ (by first | (simp; done) | omega | (simp; omega)) _ | refine Below.setCell ?_ (by first | (simp; done) | omega | (simp; omega)) _)), Bx.alloc w [.int .u8 (q.opcode : Int), .slice o.a o.n o.c, .string (str q.text), .slice i.a i.n i.c, .int .u16 (q.run.cons : Int), .slice r1.a r1.n r1.c, .slice r2.a r2.n r2.c, .bool q.run.skip, .bool q.run.paged, .int .i32 q.run.page, .bool q.run.resumed, .int .i64 q.run.state.kind, .slice r3.a r3.n r3.c, .bool q.run.serially, .int .u16 (q.run.serial : Int), .bool q.run.timed, .int .i64 q.run.time, .slice ev.a ev.n ev.c, .int .i64 q.token.kind, .slice t.a t.n t.c, .int .u8 (q.kind : Int), .slice A4 n4 c4].toArray 33 (S := fun b => b = w.heap.size) rfl rfl, fun e => by have := HT.out _ e; omega⟩
  go_wp2_with fail
  refine (wmust_any (is := decide ((q.kind : Int) ≤ 2)) I0.out.ws.at' (by omega)).mono ?_
  rintro e1 w1 ⟨rfl, T1, hk1⟩
  have hdec : decide ((q.kind : Int) ≤ 2) = decide (q.kind ≤ 2) := by simp only [decide_eq_decide]; omega
  rw [hdec, ← HM.out] at hk1
  have I1 := Lib.hid (I0.out.step hk1); clear hk1 hdec
  obtain ⟨s1, hs1⟩ : ∃ x, x = bothW s m := ⟨_, rfl⟩
  have hls1 : lenW s1 ≤ lenW s := by rw [hs1]; have := lenW_both s m; omega
  rw [← hs1] at I1
  have HS1 := Lib.hid hs1; clear hs1
  have k20 := I1.out.box.c 20 _ rfl
  have q2 := I1.out.box.lt
  go_wp2_with fail
  refine (wnumber_any (n := 1) (x := (q.kind : Int)) I1.out.ws.at' (by omega) (by omega) (by omega) (by omega) (by omega)).mono ?_
  rintro e2 w2 ⟨rfl, T2, hk2⟩
  obtain ⟨s2, hs2⟩ : ∃ x, x = bothW s1 (.ok (enc 1 q.kind)) := ⟨_, rfl⟩
  have I2 := Lib.hid ((I1.out.step hk2).as (s' := s2) (by rw [hs2]; rfl)); clear hk2
  have hls2 : lenW s2 ≤ lenW s + 1 := by rw [hs2]; have h1 := lenW_both s1 (.ok (enc 1 q.kind)); have h2 : lenW (.ok (enc 1 q.kind)) = 1 := enc_length _ _; omega
  have HS2 := Lib.hid hs2; clear hs2
  clear q2 k20
  have k21 := I2.out.box.c 21 _ rfl
  have q2 := I2.out.box.lt
  go_wp2_with fail
  refine (wcount_any (n := n4) I2.out.ws.at' (by omega) (by omega)).mono ?_
  rintro e3 w3 ⟨rfl, T3, hk3⟩
  rw [← HCN.out] at hk3
  obtain ⟨s4, hs4⟩ : ∃ x, x = bothW s2 cn := ⟨_, rfl⟩
  have I3 := Lib.hid ((I2.out.step hk3).as (s' := s4) hs4.symm); clear hk3
  have hls4 : lenW s4 ≤ lenW s + 3 := by rw [hs4]; have h1 := lenW_both s2 cn; omega
  have HS4a := Lib.hid hs4; clear hs4
  have HS4 : Hid (s4 = bothW (bothW (bothW s m) (.ok (enc 1 q.kind))) cn) := Lib.hid (by rw [HS4a.out, HS2.out, HS1.out])
  clear q2 k21
  have k21 := I3.out.box.c 21 _ rfl
  have q2 := I3.out.box.lt
  go_wp2_with fail
  go_loopw [24] (fun ix wr => ∃ k Tk, k ≤ n4 ∧ ix = .int .i64 ((k : Nat) : Int) ∧ Hid (RunW w T wr Y (bothW s4 (putsM stmQ (l.take k))) Tk w.heap.size [.int .u8 (q.opcode : Int), .slice o.a o.n o.c, .string (str q.text), .slice i.a i.n i.c, .int .u16 (q.run.cons : Int), .slice r1.a r1.n r1.c, .slice r2.a r2.n r2.c, .bool q.run.skip, .bool q.run.paged, .int .i32 q.run.page, .bool q.run.resumed, .int .i64 q.run.state.kind, .slice r3.a r3.n r3.c, .bool q.run.serially, .int .u16 (q.run.serial : Int), .bool q.run.timed, .int .i64 q.run.time, .slice ev.a ev.n ev.c, .int .i64 q.token.kind, .slice t.a t.n t.c, .int .u8 (q.kind : Int), .slice A4 n4 c4])) (fun ix _ => (n4 - intOf ix).toNat)
  case atStart => exact ⟨0, T3, Nat.zero_le _, rfl, I3.out.as (bothQ_nil s4).symm⟩
  case round =>
    obtain ⟨k, Tk, hk, rfl, HW⟩ := hrel
    by_cases hlt : k < n4
    · skip
      obtain ⟨x, hx⟩ : ∃ x, l[k]? = some x := ⟨_, List.getElem?_eq_getElem (by rw [HLN.out]; exact hlt)⟩
      have hcost := costA_mem (List.mem_of_getElem? hx)
      have hsn := putsM_snoc stmQ hx
      have HSN := Lib.hid hsn; clear hsn
      have hlen : lenW (bothW s4 (putsM stmQ (l.take k))) ≤ lenW s + 3 + costA l := by
        have h1 := lenW_both s4 (putsM stmQ (l.take k)); have h2 := HPL.out k; omega
      obtain ⟨st, hst⟩ : ∃ x, x = bothW s4 (putsM stmQ (l.take k)) := ⟨_, rfl⟩
      rw [← hst] at HW hlen
      have HST := Lib.hid hst; clear hst
      have hvr := HW.out.ws.keep goesArrS HAL.out HS9.out
      obtain ⟨g1, o1, rfl, hs1, hlt1, hcells⟩ := hvr.at (by decide) (by omega)
      obtain ⟨v, hvl, ⟨B1, m1, d1, B2, m2, d2, rfl, htl, hid1, hva1⟩, hvc⟩ := hcells.out k x hx
      have e0 := hvc 0 _ rfl
      have e1 := hvc 1 _ rfl
      have e2 := hvc 2 _ rfl
      have e3 := hvc 3 _ rfl
      simp only [Nat.add_zero] at e0
      clear hvl hvc hcells hvr hx
      have HDP0 := Lib.hid hid1; clear hid1
      have HVP0 := Lib.hid hva1; clear hva1
      have y1 := HW.out.ws.at'.cellE
      have hY : Y < wr.heap.size := HW.out.ws.at'.lt Y HW.out.ws.at'.mem
      cases st with
      | error e =>
        have hne := HW.out.ws.at'.ne0
        have hne2 : (e != 0) = true := bne_iff_ne.2 hne
        simp only [werr_error] at y1
        go_wp2_with fail
        refine bodyPost_ret (v := .tuple #[]) (results_none rfl _ _ _) rfl ?_
        exact ⟨rfl, Tk, (HW.out.after (by repeat (first | exact Below.refl _ _ | assumption | refine Below.drew ?_ | refine below_drewN ?_ _ | refine Below.alloc ?_ (by first | (simp; done) | omega | (simp; omega)) _ | refine Below.setCell ?_ (by first | (simp; done) | omega | (simp; omega)) _))).ws.as (by rw [← HS4.out, putsM_part stmQ l k _ HST.out.symm]; rfl)⟩
      | ok b0 =>
        simp only [werr_ok] at y1
        have hct : costT x = 65600 + x.ident.length + x.text.length + 2 * costE (elsQ [] x.values) := rfl
        have hnS : ∀ b, S b → ¬ Tk b := fun b hb => HW.out.ws.not (HS.out b hb).1 (HS.out b hb).2
        have hnx : ¬ Tk wr.heap.size := HW.out.ws.ne (Nat.le_refl _)
        have HNS := Lib.hid hnS; clear hnS
        have HNX := Lib.hid hnx; clear hnx
        have HLE : Hid (lenW (.ok b0) ≤ lenW s + 3 + costA l) := Lib.hid hlen
        cases hpx : x.prepared with
        | true =>
          rw [hpx] at e0
          have HPX := Lib.hid hpx; clear hpx
          have hba : Below wr.heap.size wr (wr.alloc (.cells #[.bool true, .string (str x.text), .slice B1 m1 d1, .slice B2 m2 d2] 58)) := (Below.refl _ _).alloc (Nat.le_refl _) _
          have HXP : Hid (Bx (fun b => b = wr.heap.size) (wr.alloc (.cells #[.bool true, .string (str x.text), .slice B1 m1 d1, .slice B2 m2 d2] 58)) wr.heap.size [.bool true, .string (str x.text), .slice B1 m1 d1, .slice B2 m2 d2]) := Lib.hid (Bx.alloc wr #[.bool true, .string (str x.text), .slice B1 m1 d1, .slice B2 m2 d2] 58 (S := fun b => b = wr.heap.size) rfl rfl)
          have HDP := Lib.hid (HDP0.out.after hba)
          have HVP := Lib.hid (goesArrV.after HVP0.out hba)
          have HWA := Lib.hid (HW.out.after hba)
          clear hba
          go_wp2_with fail
          refine (wnumber_any (n := 1) (x := 1) HWA.out.ws.at' (by omega) (by omega) (by omega) (by omega) (by omega)).mono ?_
          rintro e5 w5 ⟨rfl, T5, hk5⟩
          have hnS := HNS.out
          have hnx := HNX.out
          have HX5 := Lib.hid (hk5.kept goesBx HXP.out fun b e => by rw [e]; exact hnx)
          have HD5 := Lib.hid (hk5.kept goesSl HDP.out fun b hb => hnS b hb)
          have HV5 := Lib.hid (hk5.kept goesArrV HVP.out fun b hb => hnS b hb)
          have J5 := Lib.hid (HWA.out.step hk5)
          have hn5 : ¬ T5 wr.heap.size := fun e => by rcases hk5.own _ e with h1 | h1; exact hnx h1; have h2 : (wr.alloc (.cells #[.bool true, .string (str x.text), .slice B1 m1 d1, .slice B2 m2 d2] 58)).heap.size = wr.heap.size + 1 := World.size_alloc _ _; omega
          have HN5 := Lib.hid hn5; clear hn5 hk5 hnS hnx
          have k0 := HX5.out.c 0 _ rfl
          have k2 := HX5.out.c 2 _ rfl
          have k3 := HX5.out.c 3 _ rfl
          have q5 := HX5.out.lt
          have hl5 : lenW (bothW (.ok b0) (.ok (enc 1 (1 : Int).toNat))) ≤ lenW s + 4 + costA l := by have h1 := lenW_both (.ok b0) (.ok (enc 1 (1 : Int).toNat)); have h2 : lenW (.ok (enc 1 (1 : Int).toNat)) = 1 := enc_length _ _; have := HLE.out; omega
          have hS5 := Lib.hid (fun b (hb : S b) => J5.out.ws.not (HS.out b hb).1 (HS.out b hb).2)
          go_wp2_with fail
          refine (wshort_any J5.out.ws.at' HD5.out hS5.out (by omega)).mono ?_
          rintro e6 w6 ⟨rfl, T6, hk6⟩
          have HX6 := Lib.hid (hk6.kept goesBx HX5.out fun b e => by rw [e]; exact HN5.out)
          have HV6 := Lib.hid (hk6.kept goesArrV HV5.out hS5.out)
          have J6 := Lib.hid (J5.out.step hk6); clear hk6 k0 k2 k3 q5
          have k3 := HX6.out.c 3 _ rfl
          have q6 := HX6.out.lt
          have hl6 := lenW_both (bothW (.ok b0) (.ok (enc 1 (1 : Int).toNat))) (text x.ident)
          have hl7 := text_le x.ident
          have HVR := Lib.hid HV6.out
          have HSC := Lib.hid (fun b (hb : S b) => (⟨by have := (HS.out b hb).1; have := J6.out.ws.size; omega, J6.out.ws.not (HS.out b hb).1 (HS.out b hb).2⟩ : b < w6.heap.size ∧ ¬ T6 b))
          go_wp2_with fail
          refine (wvalues_any (l := x.values) (names := []) J6.out.ws.at' HVR.out Arr.nil HSC.out (.inl rfl) (by omega)).mono ?_
          rintro e9 w9 ⟨rfl, T9, hk9⟩
          have J9 := Lib.hid (J6.out.step hk9); clear hk9
          go_wp2_with fail
          refine ⟨⟨k + 1, T9, by omega, by congr 1, J9.out.as ?_⟩, by simp [intOf]; omega⟩
          rw [HSN.out, ← bothW_assoc, ← HST.out]
          unfold stmQ
          rw [HPX.out, ← bothW_assoc, ← bothW_assoc]
          rfl
        | false =>
          rw [hpx] at e0
          have HPX := Lib.hid hpx; clear hpx
          have hba : Below wr.heap.size wr (wr.alloc (.cells #[.bool false, .string (str x.text), .slice B1 m1 d1, .slice B2 m2 d2] 58)) := (Below.refl _ _).alloc (Nat.le_refl _) _
          have HXP : Hid (Bx (fun b => b = wr.heap.size) (wr.alloc (.cells #[.bool false, .string (str x.text), .slice B1 m1 d1, .slice B2 m2 d2] 58)) wr.heap.size [.bool false, .string (str x.text), .slice B1 m1 d1, .slice B2 m2 d2]) := Lib.hid (Bx.alloc wr #[.bool false, .string (str x.text), .slice B1 m1 d1, .slice B2 m2 d2] 58 (S := fun b => b = wr.heap.size) rfl rfl)
          have HDP := Lib.hid (HDP0.out.after hba)
          have HVP := Lib.hid (goesArrV.after HVP0.out hba)
          have HWA := Lib.hid (HW.out.after hba)
          clear hba
          go_wp2_with fail
          refine (wnumber_any (n := 1) (x := 0) HWA.out.ws.at' (by omega) (by omega) (by omega) (by omega) (by omega)).mono ?_
          rintro e5 w5 ⟨rfl, T5, hk5⟩
          have hnS := HNS.out
          have hnx := HNX.out
          have HX5 := Lib.hid (hk5.kept goesBx HXP.out fun b e => by rw [e]; exact hnx)
          have HD5 := Lib.hid (hk5.kept goesSl HDP.out fun b hb => hnS b hb)
          have HV5 := Lib.hid (hk5.kept goesArrV HVP.out fun b hb => hnS b hb)
          have J5 := Lib.hid (HWA.out.step hk5)
          have hn5 : ¬ T5 wr.heap.size := fun e => by rcases hk5.own _ e with h1 | h1; exact hnx h1; have h2 : (wr.alloc (.cells #[.bool false, .string (str x.text), .slice B1 m1 d1, .slice B2 m2 d2] 58)).heap.size = wr.heap.size + 1 := World.size_alloc _ _; omega
          have HN5 := Lib.hid hn5; clear hn5 hk5 hnS hnx
          have k0 := HX5.out.c 0 _ rfl
          have k1 := HX5.out.c 1 _ rfl
          have k3 := HX5.out.c 3 _ rfl
          have q5 := HX5.out.lt
          have hl5 : lenW (bothW (.ok b0) (.ok (enc 1 (0 : Int).toNat))) ≤ lenW s + 4 + costA l := by have h1 := lenW_both (.ok b0) (.ok (enc 1 (0 : Int).toNat)); have h2 : lenW (.ok (enc 1 (0 : Int).toNat)) = 1 := enc_length _ _; have := HLE.out; omega
          have hS5 := Lib.hid (fun b (hb : S b) => J5.out.ws.not (HS.out b hb).1 (HS.out b hb).2)
          have htx : x.text.length ≤ 140737488350000 := by omega
          go_wp2_with fail
          refine (long_any x.text _ (by omega)).mono ?_
          rintro e6 w6 ⟨A6, m6, c6, rfl, ho, hb⟩
          have HO := Lib.hid ho.slb; clear ho
          have J6 := Lib.hid (J5.out.after hb)
          have HX6 := Lib.hid (HX5.out.after hb)
          have HV6 := Lib.hid (goesArrV.after HV5.out hb)
          clear hb k0 k1 k3 q5
          have hlw := long_w x.text
          obtain ⟨lw, hlw2⟩ : ∃ y, y = long x.text := ⟨_, rfl⟩
          rw [← hlw2] at HO hlw
          have HLW := Lib.hid hlw2; clear hlw2
          go_wp2_with fail
          refine (wput_any J6.out.ws.at' HO.out (.ok lw) rfl (fun b e => by injection e) (fun x e => by cases e) (by omega)).mono ?_
          rintro e7 w7 ⟨rfl, T7, hk7⟩
          have HX7 := Lib.hid (hk7.kept goesBx HX6.out fun b e => by rw [e]; exact HN5.out)
          have HV7 := Lib.hid (hk7.kept goesArrV HV6.out hS5.out)
          have J7 := Lib.hid (J6.out.step hk7); clear hk7
          have k3 := HX7.out.c 3 _ rfl
          have q7 := HX7.out.lt
          have hl6 := lenW_both (bothW (.ok b0) (.ok (enc 1 (0 : Int).toNat))) (.ok lw)
          have hl7 : lenW (.ok lw) = lw.length := rfl
          have HVR := Lib.hid HV7.out
          have HSC := Lib.hid (fun b (hb : S b) => (⟨by have := (HS.out b hb).1; have := J7.out.ws.size; omega, J7.out.ws.not (HS.out b hb).1 (HS.out b hb).2⟩ : b < w7.heap.size ∧ ¬ T7 b))
          go_wp2_with fail
          refine (wvalues_any (l := x.values) (names := []) J7.out.ws.at' HVR.out Arr.nil HSC.out (.inl rfl) (by omega)).mono ?_
          rintro e9 w9 ⟨rfl, T9, hk9⟩
          have J9 := Lib.hid (J7.out.step hk9); clear hk9
          go_wp2_with fail
          refine ⟨⟨k + 1, T9, by omega, by congr 1, J9.out.as ?_⟩, by simp [intOf]; omega⟩
          rw [HSN.out, ← bothW_assoc, ← HST.out, HLW.out]
          unfold stmQ
          rw [HPX.out, ← bothW_assoc, ← bothW_assoc]
          rfl
    · obtain rfl : k = n4 := by omega
      have HW2 := Lib.hid (HW.out.as (s' := bothW s4 (putsM stmQ l)) (by rw [List.take_of_length_le (by rw [HLN.out]; exact Nat.le_refl _)]))
      have hpl := HPL.out k
      rw [List.take_of_length_le (by rw [HLN.out]; exact Nat.le_refl _)] at hpl
      have hls5 := lenW_both s4 (putsM stmQ l)
      have q9 := HW2.out.box.lt
      go_wp2_with (first | (refine wpList_load_mid (by rfl) 30 _ (by rfl) w.heap.size 4 (by rfl) (parV q.run r1.a r1.n r1.c r2.a r2.n r2.c r3.a r3.n r3.c) _ (HW2.out.box.range_at (by rfl)) Try.underlying30 rfl (by kernel_rfl) ?_))
      have HPR := Lib.hid (HW2.out.ws.keep goesPar HP.out.run HS9.out)
      have HSC := Lib.hid (fun b (hb : S b) => (⟨by have := (HS.out b hb).1; have := HW2.out.ws.size; omega, HW2.out.ws.not (HS.out b hb).1 (HS.out b hb).2⟩ : b < wr.heap.size ∧ ¬ Tk b))
      refine (wrun_any (p := q.run) (batch := true) HW2.out.ws.at' HPR.out HSC.out HPN.out.cons HPN.out.serial HPN.out.page HPN.out.time (by unfold costR at hl; omega)).mono ?_
      rintro e9 w9 ⟨rfl, T9, hk9⟩
      have J9 := Lib.hid (HW2.out.step hk9); clear hk9
      go_wp2_with fail
      refine bodyPost_end (results_none rfl _ _ _) rfl ?_
      exact ⟨rfl, T9, J9.out.ws.as (by rw [HS4.out])⟩
end Go.Proofs.Sb
