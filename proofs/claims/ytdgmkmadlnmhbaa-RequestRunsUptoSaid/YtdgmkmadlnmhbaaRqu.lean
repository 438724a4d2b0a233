/- Walk over request.reader's run. Conditions: lengths up to 2^47. (written by gen_rqrun.py) -/
import Derived.Test.YtdgmkmadlnmhbaaRqb
set_option linter.unusedVariables false
set_option linter.unusedSimpArgs false
namespace Go.Proofs.Sb
open Go.RowKit _root_.Sb

theorem wrap32_sgn (x : Nat) (h : x < 4294967296) : wrap32 (x : Int) = sgn 4 x := by
  unfold wrap32 sgn; simp only [Nat.reducePow, Nat.reduceDiv]; split <;> omega
theorem wrap64_sgn (x : Nat) (h : x < 18446744073709551616) : wrap64 (x : Int) = sgn 8 x := by
  unfold wrap64 sgn; simp only [Nat.reducePow, Nat.reduceDiv]; split <;> omega

theorem grow13 (w : World) (R : Nat) (u0 u1 u2 u3 u4 u5 u6 u7 u8 u9 u10 u11 u12 : Value) : w.grownBy (((((((((((((w.setCell ⟨R, 0, none⟩ u0).setCell ⟨R, 1, none⟩ u1).setCell ⟨R, 2, none⟩ u2).setCell ⟨R, 3, none⟩ u3).setCell ⟨R, 4, none⟩ u4).setCell ⟨R, 5, none⟩ u5).setCell ⟨R, 6, none⟩ u6).setCell ⟨R, 7, none⟩ u7).setCell ⟨R, 8, none⟩ u8).setCell ⟨R, 9, none⟩ u9).setCell ⟨R, 10, none⟩ u10).setCell ⟨R, 11, none⟩ u11).setCell ⟨R, 12, none⟩ u12) (some R) := grow_seq (grow_seq (grow_seq (grow_seq (grow_seq (grow_seq (grow_seq (grow_seq (grow_seq (grow_seq (grow_seq (grow_seq (grow_setCell _ R 0 u0) (grow_setCell _ R 1 u1) fun j e => .inr e) (grow_setCell _ R 2 u2) fun j e => .inr e) (grow_setCell _ R 3 u3) fun j e => .inr e) (grow_setCell _ R 4 u4) fun j e => .inr e) (grow_setCell _ R 5 u5) fun j e => .inr e) (grow_setCell _ R 6 u6) fun j e => .inr e) (grow_setCell _ R 7 u7) fun j e => .inr e) (grow_setCell _ R 8 u8) fun j e => .inr e) (grow_setCell _ R 9 u9) fun j e => .inr e) (grow_setCell _ R 10 u10) fun j e => .inr e) (grow_setCell _ R 11 u11) fun j e => .inr e) (grow_setCell _ R 12 u12) fun j e => .inr e
theorem RunI.res' {S : Nat → Prop} {w wx w' : World} {X P R PR PF f : Nat} {s : Wr} {vs : List Value} {A1 : Option Addr} {n1 c1 : Nat} {A2 : Option Addr} {n2 c2 : Nat} {A3 : Option Addr} {n3 c3 : Nat} {lv : List Val} {ln : List B} {bs : B}
    (h : RunI S w X P R PR PF f s vs A1 n1 c1 A2 n2 c2 A3 n3 c3 lv ln bs wx) (hg : wx.grownBy w' (some R)) (hX : X < w.heap.size) (hR : w.heap.size ≤ R) :
    ParR (fun b => w.heap.size ≤ b) w' A1 n1 c1 A2 n2 c2 A3 n3 c3 lv ln bs ∧ RdAt S w' X s ∧ w.grownBy w' (some X) :=
  ⟨goesPar.mono (goesPar.grown h.par hg fun b hb e => hb.2.2 e) fun b hb _ => hb.1,
    (h.rd.grown hg (fun e => by injection e with e; omega) (fun b hb e => by injection e with e; have := hb.2; omega)).monoS fun b hb => hb.1,
    grow_seq h.gr hg fun j e => by injection e with e; left; omega⟩

theorem gR_pure {α : Type} (x : α) (s : Wr) : gR (fun b => (.ok (x, b) : Res α)) s = s := by cases s <;> rfl
theorem tie_pure {α : Type} (x : α) (s : Wr) : Tie (fun b => (.ok (x, b) : Res α)) s x := fun cur y rest _ h2 => by injection h2 with h2; injection h2
theorem run_fin {batch : Bool} {s s1 s2 s3 s4 s5 s6 s7 s8 : Wr} {c f : Nat} {l : List (B × Val)} {b1 b2 b3 b4 b5 : Bool} {pg : Int} {v : Val} {sr : Nat} {tm : Int}
    (hc : c = gV 0 getCons s) (h1 : s1 = gR getCons s) (hf : f = gV 0 (getN 1) s1) (h2 : s2 = gR (getN 1) s1) (h3 : s3 = mustR (flagsOk batch f) 21 s2) (h4 : s4 = gR (valsR f) s3) (hl : Tie (valsR f) s3 l)
    (hb1 : b1 = (okB s4 && bitB f 1)) (hb2 : b2 = (okB s4 && bitB f 2)) (hpg : pg = gV 0 (optR (bitB f 2) 0 getNum) s4) (h5 : s5 = gR (optR (bitB f 2) 0 getNum) s4)
    (hb3 : b3 = (okB s5 && bitB f 3)) (hv : v = gV Val.none (optR (bitB f 3) Val.none getValue) s5) (h6 : s6 = gR (optR (bitB f 3) Val.none getValue) s5)
    (hb4 : b4 = (okB s6 && bitB f 4)) (hsr : sr = gV 0 (optR (bitB f 4) 0 getCons) s6) (h7 : s7 = gR (optR (bitB f 4) 0 getCons) s6)
    (hb5 : b5 = (okB s7 && bitB f 5)) (htm : tm = gV 0 (optR (bitB f 5) 0 getI8) s7) (h8 : s8 = gR (optR (bitB f 5) 0 getI8) s7) :
    s8 = gR (getRun batch) s ∧ Tie (getRun batch) s ⟨c, l.map (·.2), nmsV (bitB f 6) l, b1, b2, pg, b3, v, b4, sr, b5, tm⟩ := by
  have e : gR (getRun batch) s = s8 := by
    unfold getRun
    rw [gR_bind 0, ← hc, ← h1, gR_bind 0, ← hf, ← h2, gR_must, ← h3, gR_bindT hl, ← h4, gR_bind 0, ← hpg, ← h5, gR_bind Val.none, ← hv, ← h6, gR_bind 0, ← hsr, ← h7, gR_bind 0, ← htm, ← h8, gR_pure]
  have t : Tie (getRun batch) s (parOf c f l pg v sr tm) := by
    unfold getRun
    refine tie_bind (d := 0) ?_
    rw [← hc, ← h1]
    refine tie_bind (d := 0) ?_
    rw [← hf, ← h2]
    refine tie_must ?_
    rw [← h3]
    refine tie_bindT hl ?_
    rw [← h4]
    refine tie_bind (d := 0) ?_
    rw [← hpg, ← h5]
    refine tie_bind (d := Val.none) ?_
    rw [← hv, ← h6]
    refine tie_bind (d := 0) ?_
    rw [← hsr, ← h7]
    refine tie_bind (d := 0) ?_
    rw [← htm, ← h8]
    exact tie_pure _ _
  refine ⟨e.symm, fun cur y rest e1 e2 => ?_⟩
  have e3 : s8 = .ok rest := by rw [← e, e1, gR_ok e2]
  have k7 : okB s7 = true := okB_gR (h8.symm.trans e3)
  obtain ⟨r7, q7⟩ : ∃ r, s7 = .ok r := by cases s7 with | error e => cases k7 | ok r => exact ⟨r, rfl⟩
  have k6 : okB s6 = true := okB_gR (h7.symm.trans q7)
  obtain ⟨r6, q6⟩ : ∃ r, s6 = .ok r := by cases s6 with | error e => cases k6 | ok r => exact ⟨r, rfl⟩
  have k5 : okB s5 = true := okB_gR (h6.symm.trans q6)
  obtain ⟨r5, q5⟩ : ∃ r, s5 = .ok r := by cases s5 with | error e => cases k5 | ok r => exact ⟨r, rfl⟩
  have k4 : okB s4 = true := okB_gR (h5.symm.trans q5)
  rw [k4, Bool.true_and] at hb1 hb2
  rw [k5, Bool.true_and] at hb3
  rw [k6, Bool.true_and] at hb4
  rw [k7, Bool.true_and] at hb5
  subst hb1 hb2 hb3 hb4 hb5
  exact t cur y rest e1 e2

theorem flags_key : ∀ (f : Fin 256) (b : Bool), flagsOk b f = ((((f : Nat) : Int) / 128 == 0) && ((bits .and .u8 ((f : Nat) : Int) 64 == 0) || (bits .and .u8 ((f : Nat) : Int) 1 != 0)) && (!b || (bits .andNot .u8 ((f : Nat) : Int) 48 == 0))) := by decide +kernel
set_option maxHeartbeats 8000000 in
set_option maxRecDepth 100000 in
theorem rrun_any {S : Nat → Prop} {w : World} {X : Nat} {s : Wr} {batch : Bool} (h : RdAt S w X s) (hS : ∀ b, S b → b ≠ X) :
    Calls Try.prog 39 #[.pointer (some ⟨X, 0, none⟩), .bool batch] w fun e w' => ∃ p A1 n1 c1 A2 n2 c2 A3 n3 c3, e = .returned (.agg (parV p A1 n1 c1 A2 n2 c2 A3 n3 c3).toArray) ∧ ParR (fun b => w.heap.size ≤ b) w' A1 n1 c1 A2 n2 c2 A3 n3 c3 p.values p.names p.state.bytes ∧ RdAt S w' X (gR (getRun batch) s) ∧ w.grownBy w' (some X) ∧ Tie (getRun batch) s p := by
  have hlt := h.lt
  have HS := Lib.hid hS; clear hS
  have hA0 : RdAt (fun b => S b ∧ b < w.heap.size) w X s := by
    obtain ⟨A, n, c, h0, h1, h2, h3, h4⟩ := h
    exact ⟨A, n, c, h0, h1, h2, fun cur e => ⟨(h3 cur e).1.lt, (h3 cur e).2⟩, h4⟩
  have HA := Lib.hid hA0; clear hA0 h
  have HS9 := Lib.hid (fun b (h : S b ∧ b < w.heap.size) => HS.out b h.1)
  obtain ⟨c, hc⟩ : ∃ c, c = gV 0 getCons s := ⟨_, rfl⟩
  obtain ⟨s1, hs1⟩ : ∃ s1, s1 = gR getCons s := ⟨_, rfl⟩
  obtain ⟨f, hf⟩ : ∃ f, f = gV 0 (getN 1) s1 := ⟨_, rfl⟩
  obtain ⟨s2, hs2⟩ : ∃ s2, s2 = gR (getN 1) s1 := ⟨_, rfl⟩
  have hf256 : f < 256 := by rw [hf]; exact gV_lt (n := 1) s1
  have HC := Lib.hid hc; clear hc
  have HS1 := Lib.hid hs1; clear hs1
  have HF := Lib.hid hf; clear hf
  have HS2 := Lib.hid hs2; clear hs2
  go_enter Try.func39, Try.ntmps39
  go_wp2_with fail
  refine (rdx_cons (HA.out.after (by repeat (first | exact Below.refl _ _ | assumption | refine Below.drew ?_ | refine below_drewN ?_ _ | refine Below.alloc ?_ (by first | (simp; done) | omega | (simp; omega)) _ | refine Below.setCell ?_ (by first | (simp; done) | omega | (simp; omega)) _))) HS9.out).mono ?_
  rintro e w1 ⟨rfl, ha1, hg1⟩
  rw [← HC.out]
  rw [← HS1.out] at ha1
  have HA1 := Lib.hid ha1; clear ha1
  have r0 : w1.cell? ⟨w.heap.size, 0, none⟩ = some (.pointer (some ⟨X, 0, none⟩)) := gcX hg1 (by omega) (by go_simp)
  have HR1 : Hid (Bx (fun b => b = w.heap.size + 1) w1 (w.heap.size + 1) zeroP) := goesBx.grown (Bx.alloc (w.alloc _) zeroP.toArray 30 (S := fun b => b = w.heap.size + 1) (by simp) (by simp)) hg1 (fun b e => by omega)
  have HG1 := Lib.hid (grow_alloc (grow_alloc hg1))
  have hz1 : w.heap.size + 1 < w1.heap.size := HR1.out.lt
  have hy1 : w.heap.size < w1.heap.size := by omega
  clear hg1
  go_wp2_with fail
  refine (rnumq_any (k := 1) (HA1.out.after (by repeat (first | exact Below.refl _ _ | assumption | refine Below.drew ?_ | refine below_drewN ?_ _ | refine Below.alloc ?_ (by first | (simp; done) | omega | (simp; omega)) _ | refine Below.setCell ?_ (by first | (simp; done) | omega | (simp; omega)) _))) HS9.out (by omega) (by omega)).mono ?_
  rintro e w2 ⟨rfl, ha2, hg2⟩
  rw [← HF.out]
  rw [← HS2.out] at ha2
  have HA2 := Lib.hid ha2; clear ha2
  replace r0 : w2.cell? ⟨w.heap.size, 0, none⟩ = some (.pointer (some ⟨X, 0, none⟩)) := gcX hg2 (by omega) (by go_simp)
  have hba1 : Below w1.heap.size w1 (w1.alloc _) := (Below.refl _ _).alloc (Nat.le_refl _) (.cells (#[.int .u16 (c : Int), .slice none 0 0, .slice none 0 0, .bool false, .bool false, .int .i32 0, .bool false, .int .i64 0, .slice none 0 0, .bool false, .int .u16 0, .bool false, .int .i64 0]) 30)
  have HR2 : Hid (Bx (fun b => b = w.heap.size + 1) w2 (w.heap.size + 1) zeroP) := goesBx.grown (HR1.out.after hba1) hg2 (fun b e => by omega)
  have HP2 : Hid (Bx (fun b => b = w1.heap.size) w2 w1.heap.size [.int .u16 (c : Int), .slice none 0 0, .slice none 0 0, .bool false, .bool false, .int .i32 0, .bool false, .int .i64 0, .slice none 0 0, .bool false, .int .u16 0, .bool false, .int .i64 0]) := goesBx.grown (Bx.alloc w1 #[.int .u16 (c : Int), .slice none 0 0, .slice none 0 0, .bool false, .bool false, .int .i32 0, .bool false, .int .i64 0, .slice none 0 0, .bool false, .int .u16 0, .bool false, .int .i64 0] 30 (S := fun b => b = w1.heap.size) rfl rfl) hg2 (fun b e => by omega)
  have HG2 := Lib.hid (grow_seq HG1.out (grow_alloc hg2) fun j e => .inr e)
  have hz2 : w1.heap.size < w2.heap.size := HP2.out.lt
  have hy2 : w.heap.size < w2.heap.size := by omega
  clear hg2 hba1
  go_upto_region 3 with fail
  have I3 : Hid (RunI S w X w1.heap.size (w.heap.size + 1) w.heap.size w2.heap.size f s2 [.int .u16 (c : Int), .slice none 0 0, .slice none 0 0, .bool false, .bool false, .int .i32 0, .bool false, .int .i64 0, .slice none 0 0, .bool false, .int .u16 0, .bool false, .int .i64 0] none 0 0 none 0 0 none 0 0 [] [] [] (w2.alloc (.cells #[.int .u8 (f : Int)] 5))) := by
    have hb : Below w2.heap.size w2 (w2.alloc (.cells #[.int .u8 (f : Int)] 5)) := (Below.refl _ _).alloc (Nat.le_refl _) _
    exact ⟨HA2.out.after hb, HP2.out.after hb, HR2.out.after hb, kcell hb r0, by go_simp, grow_seq HG2.out (grow_of_below (row := none) hb) (fun j e => by cases e), ⟨Arr.nil, Arr.nil, Sl.nil⟩⟩
  obtain ⟨s3, hs3⟩ : ∃ s3, s3 = mustR (flagsOk batch f) 21 s2 := ⟨_, rfl⟩
  have HS3 := Lib.hid hs3; clear hs3
  go_cut [] (fun wx => Hid (RunI S w X w1.heap.size (w.heap.size + 1) w.heap.size w2.heap.size f s3 [.int .u16 (c : Int), .slice none 0 0, .slice none 0 0, .bool false, .bool false, .int .i32 0, .bool false, .int .i64 0, .slice none 0 0, .bool false, .int .u16 0, .bool false, .int .i64 0] none 0 0 none 0 0 none 0 0 [] [] [] wx))
  case first =>
    obtain ⟨a64, ha64⟩ : ∃ a, bits .and .u8 (f : Int) 64 = a := ⟨_, rfl⟩
    obtain ⟨a1, ha1⟩ : ∃ a, bits .and .u8 (f : Int) 1 = a := ⟨_, rfl⟩
    obtain ⟨a48, ha48⟩ : ∃ a, bits .andNot .u8 (f : Int) 48 = a := ⟨_, rfl⟩
    have hkey := flags_key ⟨f, hf256⟩ batch
    simp only at hkey
    rw [ha64, ha1, ha48] at hkey
    have HKEY := Lib.hid hkey; clear hkey
    have q0 := I3.out.pr
    have q1 := I3.out.pf
    cases h7 : ((f : Int) / 128 == 0) with
    | false =>
      have hk : flagsOk batch f = false := by rw [HKEY.out]; simp [h7]
      clear HKEY
      go_wp2_with fail
      refine (rmust_any (er := 21) I3.out.rd HS9.out (by decide)).mono ?_
      rintro e3 w3 ⟨rfl, ha3, hg3⟩
      rw [← hk, ← HS3.out] at ha3
      go_wp2_with fail
      go_meet
      exact I3.out.step hlt (by omega) (by omega) (by omega) (by omega) ha3 hg3
    | true =>
      cases h64 : (a64 == 0) with
      | true =>
        cases batch with
        | false =>
          have hk : flagsOk false f = true := by rw [HKEY.out]; simp [h7, h64]
          clear HKEY
          go_wp2_with fail
          refine (rmust_any (er := 21) I3.out.rd HS9.out (by decide)).mono ?_
          rintro e3 w3 ⟨rfl, ha3, hg3⟩
          rw [← hk, ← HS3.out] at ha3
          go_wp2_with fail
          go_meet
          exact I3.out.step hlt (by omega) (by omega) (by omega) (by omega) ha3 hg3
        | true =>
          cases h48 : (a48 == 0) with
          | false =>
            have hk : flagsOk true f = false := by rw [HKEY.out]; simp [h7, h64, h48]
            clear HKEY
            go_wp2_with fail
            refine (rmust_any (er := 21) I3.out.rd HS9.out (by decide)).mono ?_
            rintro e3 w3 ⟨rfl, ha3, hg3⟩
            rw [← hk, ← HS3.out] at ha3
            go_wp2_with fail
            go_meet
            exact I3.out.step hlt (by omega) (by omega) (by omega) (by omega) ha3 hg3
          | true =>
            have hk : flagsOk true f = true := by rw [HKEY.out]; simp [h7, h64, h48]
            clear HKEY
            go_wp2_with fail
            refine (rmust_any (er := 21) I3.out.rd HS9.out (by decide)).mono ?_
            rintro e3 w3 ⟨rfl, ha3, hg3⟩
            rw [← hk, ← HS3.out] at ha3
            go_wp2_with fail
            go_meet
            exact I3.out.step hlt (by omega) (by omega) (by omega) (by omega) ha3 hg3
      | false =>
        cases h1 : (a1 != 0) with
        | false =>
          have hk : flagsOk batch f = false := by rw [HKEY.out]; simp [h7, h64, h1]
          clear HKEY
          go_wp2_with fail
          refine (rmust_any (er := 21) I3.out.rd HS9.out (by decide)).mono ?_
          rintro e3 w3 ⟨rfl, ha3, hg3⟩
          rw [← hk, ← HS3.out] at ha3
          go_wp2_with fail
          go_meet
          exact I3.out.step hlt (by omega) (by omega) (by omega) (by omega) ha3 hg3
        | true =>
          cases batch with
          | false =>
            have hk : flagsOk false f = true := by rw [HKEY.out]; simp [h7, h64, h1]
            clear HKEY
            go_wp2_with fail
            refine (rmust_any (er := 21) I3.out.rd HS9.out (by decide)).mono ?_
            rintro e3 w3 ⟨rfl, ha3, hg3⟩
            rw [← hk, ← HS3.out] at ha3
            go_wp2_with fail
            go_meet
            exact I3.out.step hlt (by omega) (by omega) (by omega) (by omega) ha3 hg3
          | true =>
            cases h48 : (a48 == 0) with
            | false =>
              have hk : flagsOk true f = false := by rw [HKEY.out]; simp [h7, h64, h1, h48]
              clear HKEY
              go_wp2_with fail
              refine (rmust_any (er := 21) I3.out.rd HS9.out (by decide)).mono ?_
              rintro e3 w3 ⟨rfl, ha3, hg3⟩
              rw [← hk, ← HS3.out] at ha3
              go_wp2_with fail
              go_meet
              exact I3.out.step hlt (by omega) (by omega) (by omega) (by omega) ha3 hg3
            | true =>
              have hk : flagsOk true f = true := by rw [HKEY.out]; simp [h7, h64, h1, h48]
              clear HKEY
              go_wp2_with fail
              refine (rmust_any (er := 21) I3.out.rd HS9.out (by decide)).mono ?_
              rintro e3 w3 ⟨rfl, ha3, hg3⟩
              rw [← hk, ← HS3.out] at ha3
              go_wp2_with fail
              go_meet
              exact I3.out.step hlt (by omega) (by omega) (by omega) (by omega) ha3 hg3
  case rest =>
    have I4 := hcut
    clear hcut
    obtain ⟨w4, hwo⟩ : ∃ wo, wo = wc := ⟨_, rfl⟩
    subst hwo
    obtain ⟨b0, hb0⟩ : ∃ b, b = (okB s3 && bitB f 0) := ⟨_, rfl⟩
    have HB0 := Lib.hid hb0; clear hb0
    have q0 := I4.out.pr
    have q1 := I4.out.pf
    have q2 := I4.out.box.lt
    have q3 := I4.out.res.lt
    go_wp2_with fail
    refine (has_any (k := 0) I4.out.rd I4.out.pr I4.out.pf hf256 (by decide) (by rfl)).mono ?_
    rintro e9 w9 ⟨rfl, rfl⟩
    rw [← HB0.out]

    go_upto_if 40 with fail
    obtain ⟨s4, hs4⟩ : ∃ s4, s4 = gR (valsR f) s3 := ⟨_, rfl⟩
    have HS4 := Lib.hid hs4; clear hs4
    go_cut [] (fun wx => ∃ l A1 n1 c1 A2 n2 c2, Hid (RunI S w X w1.heap.size (w.heap.size + 1) w.heap.size w2.heap.size f s4 [Value.int .u16 (c : Int), .slice A1 n1 c1, .slice A2 n2 c2, .bool false, .bool false, .int .i32 0, .bool false, .int .i64 0, .slice none 0 0, .bool false, .int .u16 0, .bool false, .int .i64 0] A1 n1 c1 A2 n2 c2 none 0 0 (l.map (·.2)) (nmsV (bitB f 6) l) [] wx) ∧ Hid (Tie (valsR f) s3 l))
    case first =>
      cases hb0 : b0 with
      | false =>
        have h9 := vals_f (HB0.out.symm.trans hb0)
        have e4 : s4 = s3 := HS4.out.trans h9.1
        have HT := Lib.hid h9.2
        have IE : Hid (RunI S w X w1.heap.size (w.heap.size + 1) w.heap.size w2.heap.size f s4 [.int .u16 (c : Int), .slice none 0 0, .slice none 0 0, .bool false, .bool false, .int .i32 0, .bool false, .int .i64 0, .slice none 0 0, .bool false, .int .u16 0, .bool false, .int .i64 0] none 0 0 none 0 0 none 0 0 [] [] [] w4) := e4 ▸ I4.out
        clear h9 e4 q0 q1
        go_wp2_with fail
        go_meet
        exact ⟨[], none, 0, 0, none, 0, 0, by simpa [nmsV] using IE, HT⟩
      | true =>
        have HOK := Lib.hid (HB0.out.symm.trans hb0)
        have h64 := bit_and ⟨f, hf256⟩ ⟨6, by decide⟩
        simp only [Nat.reducePow] at h64
        obtain ⟨a64, ha64⟩ : ∃ a, bits .and .u8 (f : Int) 64 = a := ⟨_, rfl⟩
        have h64' : (a64 != 0) = bitB f 6 := by rw [← ha64]; exact h64
        clear h64
        go_wp2_with fail
        refine (rvalues_any (named := bitB f 6) I4.out.rd HS9.out).mono ?_
        rintro e5 w5 ⟨B1, m1, d1, B2, m2, d2, l, rfl, hv5, hn5, ha5, hg5, ht5⟩
        have HV := Lib.hid (vals_t HOK.out ht5)
        have I5 : Hid (RunI S w X w1.heap.size (w.heap.size + 1) w.heap.size w2.heap.size f (gR (getVals (bitB f 6)) s3) [.int .u16 (c : Int), .slice none 0 0, .slice none 0 0, .bool false, .bool false, .int .i32 0, .bool false, .int .i64 0, .slice none 0 0, .bool false, .int .u16 0, .bool false, .int .i64 0] B1 m1 d1 B2 m2 d2 none 0 0 (l.map (·.2)) (nmsV (bitB f 6) l) [] w5) := by
          have h5 := I4.out.step hlt (by omega) (by omega) (by omega) (by omega) ha5 hg5
          exact ⟨h5.rd, h5.box, h5.res, h5.pr, h5.pf, h5.gr, ⟨goesArrV.mono hv5 fun b hb _ => ⟨by omega, by omega, by omega⟩, goesArr.mono hn5 fun b hb _ => ⟨by omega, by omega, by omega⟩, h5.par.state⟩⟩
        have hl5 : Hid (m1 = l.length) := Lib.hid (by have := hv5.len; rwa [List.length_map] at this)
        clear ha5 hg5 hv5 hn5 ht5 q0 q1 q2 q3
        have q0 := I5.out.pr
        have q1 := I5.out.pf
        have k1 := I5.out.box.c 1 _ rfl
        have k2 := I5.out.box.c 2 _ rfl
        have z1 := I5.out.box.fr 1
        have z2 := I5.out.box.fr 2
        have I6 := Lib.hid ((I5.out.put (by omega) (by omega) (by omega) (by omega) (by omega) 1 (.slice B1 m1 d1) (by show 1 < 13; decide)).put (by omega) (by omega) (by omega) (by omega) (by omega) 2 (.slice B2 m2 d2) (by show 2 < 13; decide))
        go_wp2_with fail
        have hdec : mustR (decide (0 < m1)) 11 (gR (getVals (bitB f 6)) s3) = s4 := by rw [HS4.out, HV.out.1, hl5.out]
        clear hl5
        refine (rmust_any (er := 11) I6.out.rd HS9.out (by decide)).mono ?_
        rintro e6 w6 ⟨rfl, ha6, hg6⟩
        rw [hdec] at ha6
        have I7 := Lib.hid (I6.out.step hlt (by omega) (by omega) (by omega) (by omega) ha6 hg6)
        clear q0 q1 k1 k2 z1 z2 hdec
        go_wp2_with fail
        go_meet
        exact ⟨l, B1, m1, d1, B2, m2, d2, I7, HV.out.2⟩
    case rest =>
      obtain ⟨l, A1, n1, c1, A2, n2, c2, I5, HTL⟩ := hcut
      obtain ⟨w5, hwo⟩ : ∃ wo, wo = wc := ⟨_, rfl⟩
      subst hwo
      have q0 := I5.out.pr
      have q1 := I5.out.pf
      have q2 := I5.out.box.lt
      have q3 := I5.out.res.lt
      have k3 := I5.out.box.c 3 _ rfl
      have z3 := I5.out.box.fr 3
      have k4 := I5.out.box.c 4 _ rfl
      have z4 := I5.out.box.fr 4
      have k5 := I5.out.box.c 5 _ rfl
      have z5 := I5.out.box.fr 5

      obtain ⟨b1, hb1⟩ : ∃ b, b = (okB s4 && bitB f 1) := ⟨_, rfl⟩
      have HB1 := Lib.hid hb1; clear hb1
      go_wp2_with fail
      refine (has_any (k := 1) I5.out.rd I5.out.pr I5.out.pf hf256 (by decide) (by rfl)).mono ?_
      rintro e9 w9 ⟨rfl, rfl⟩
      rw [← HB1.out]
      have IS := Lib.hid (I5.out.put (by omega) (by omega) (by omega) (by omega) (by omega) 3 (.bool b1) (by show 3 < 13; decide))

      obtain ⟨b2, hb2⟩ : ∃ b, b = (okB s4 && bitB f 2) := ⟨_, rfl⟩
      have HB2 := Lib.hid hb2; clear hb2
      go_wp2_with fail
      refine (has_any (k := 2) IS.out.rd IS.out.pr IS.out.pf hf256 (by decide) (by rfl)).mono ?_
      rintro e9 w9 ⟨rfl, rfl⟩
      rw [← HB2.out]
      have I5b := Lib.hid (IS.out.put (by omega) (by omega) (by omega) (by omega) (by omega) 4 (.bool b2) (by show 4 < 13; decide))
      go_upto_if 64 with fail
      obtain ⟨s5, hs5⟩ : ∃ x, x = gR (optR (bitB f 2) 0 getNum) s4 := ⟨_, rfl⟩
      have Hs5 := Lib.hid hs5; clear hs5
      go_cut [] (fun wx => ∃ pg, Hid (RunI S w X w1.heap.size (w.heap.size + 1) w.heap.size w2.heap.size f s5 [Value.int .u16 (c : Int), .slice A1 n1 c1, .slice A2 n2 c2, .bool b1, .bool b2, .int .i32 pg, .bool false, .int .i64 0, .slice none 0 0, .bool false, .int .u16 0, .bool false, .int .i64 0] A1 n1 c1 A2 n2 c2 none 0 0 (l.map (·.2)) (nmsV (bitB f 6) l) [] wx) ∧ Hid (pg = gV 0 (optR (bitB f 2) 0 getNum) s4))
      case first =>
        cases b2 with
        | false =>
          have h9 := opt_f (g := getNum) (d := (0 : Int)) (HB2.out.symm)
          have e4 : s5 = s4 := Hs5.out.trans h9.1
          have e5 := Lib.hid h9.2.symm
          have IE : Hid (RunI S w X w1.heap.size (w.heap.size + 1) w.heap.size w2.heap.size f s5 [Value.int .u16 (c : Int), .slice A1 n1 c1, .slice A2 n2 c2, .bool b1, .bool false, .int .i32 0, .bool false, .int .i64 0, .slice none 0 0, .bool false, .int .u16 0, .bool false, .int .i64 0] A1 n1 c1 A2 n2 c2 none 0 0 (l.map (·.2)) (nmsV (bitB f 6) l) [] _) := e4 ▸ I5b.out
          clear h9 e4
          go_wp2_with fail
          go_meet
          exact ⟨0, IE, e5⟩
        | true =>
          have h9 := opt_t (g := getNum) (d := 0) (HB2.out.symm)
          have H9 := Lib.hid h9; clear h9
          go_wp2_with fail
          refine (rnumq_any (k := 4) I5b.out.rd HS9.out (by omega) (by omega)).mono ?_
          rintro e5 w7 ⟨rfl, ha7, hg7⟩
          obtain ⟨y4, hy4⟩ : ∃ y, y = gV 0 (getN 4) s4 := ⟨_, rfl⟩
          have hb4 : y4 < 4294967296 := by rw [hy4]; exact gV_lt (n := 4) s4
          obtain ⟨x4, hx4⟩ : ∃ x, x = wrap32 (y4 : Int) := ⟨_, rfl⟩
          have hx5 : x4 = gV 0 (optR (bitB f 2) 0 getNum) s4 := by rw [H9.out.2, (num_R s4).2, hx4, hy4, wrap32_sgn _ (gV_lt (n := 4) s4)]
          have HX5 := Lib.hid hx5; clear hx5
          rw [← (num_R s4).1, ← H9.out.1, ← Hs5.out] at ha7
          rw [← hy4]
          clear hy4
          have I7 : Hid (RunI S w X w1.heap.size (w.heap.size + 1) w.heap.size w2.heap.size f s5 [Value.int .u16 (c : Int), .slice A1 n1 c1, .slice A2 n2 c2, .bool b1, .bool true, .int .i32 0, .bool false, .int .i64 0, .slice none 0 0, .bool false, .int .u16 0, .bool false, .int .i64 0] A1 n1 c1 A2 n2 c2 none 0 0 (l.map (·.2)) (nmsV (bitB f 6) l) [] w7) := I5b.out.step hlt (by omega) (by omega) (by omega) (by omega) ha7 hg7
          clear ha7 hg7
          clear q0 q1 q2 q3
          have q0 := I7.out.pr
          have q1 := I7.out.pf
          have q2 := I7.out.box.lt
          have q3 := I7.out.res.lt
          have y5 := I7.out.box.c 5 _ rfl
          have x5 := I7.out.box.fr 5
          have I70 := Lib.hid (I7.out.put (by omega) (by omega) (by omega) (by omega) (by omega) 5 (.int .i32 x4) (by show 5 < 13; decide))
          go_wp2_with fail
          try rw [← hx4]
          clear hx4
          go_meet
          exact ⟨x4, I70, HX5⟩
      case rest =>
        obtain ⟨pg, I5n, Hpg⟩ := hcut
        obtain ⟨w6, hwo⟩ : ∃ wo, wo = wc := ⟨_, rfl⟩
        subst hwo
        clear q0 q1 q2 q3 k3 z3 k4 z4 k5 z5
        have q0 := I5n.out.pr
        have q1 := I5n.out.pf
        have q2 := I5n.out.box.lt
        have q3 := I5n.out.res.lt
        have k6 := I5n.out.box.c 6 _ rfl
        have z6 := I5n.out.box.fr 6
        have k7 := I5n.out.box.c 7 _ rfl
        have z7 := I5n.out.box.fr 7
        have k8 := I5n.out.box.c 8 _ rfl
        have z8 := I5n.out.box.fr 8

        obtain ⟨b3, hb3⟩ : ∃ b, b = (okB s5 && bitB f 3) := ⟨_, rfl⟩
        have HB3 := Lib.hid hb3; clear hb3
        go_wp2_with fail
        refine (has_any (k := 3) I5n.out.rd I5n.out.pr I5n.out.pf hf256 (by decide) (by rfl)).mono ?_
        rintro e9 w9 ⟨rfl, rfl⟩
        rw [← HB3.out]
        have I5nb := Lib.hid (I5n.out.put (by omega) (by omega) (by omega) (by omega) (by omega) 6 (.bool b3) (by show 6 < 13; decide))
        go_upto_if 73 with fail
        obtain ⟨s6, hs6⟩ : ∃ x, x = gR (optR (bitB f 3) Val.none getValue) s5 := ⟨_, rfl⟩
        have Hs6 := Lib.hid hs6; clear hs6
        go_cut [] (fun wx => ∃ v A3 n3 c3, Hid (RunI S w X w1.heap.size (w.heap.size + 1) w.heap.size w2.heap.size f s6 [Value.int .u16 (c : Int), .slice A1 n1 c1, .slice A2 n2 c2, .bool b1, .bool b2, .int .i32 pg, .bool b3, .int .i64 v.kind, .slice A3 n3 c3, .bool false, .int .u16 0, .bool false, .int .i64 0] A1 n1 c1 A2 n2 c2 A3 n3 c3 (l.map (·.2)) (nmsV (bitB f 6) l) v.bytes wx) ∧ Hid (v = gV Val.none (optR (bitB f 3) Val.none getValue) s5))
        case first =>
          cases b3 with
          | false =>
            have h9 := opt_f (g := getValue) (d := Val.none) (HB3.out.symm)
            have e4 : s6 = s5 := Hs6.out.trans h9.1
            have e5 := Lib.hid h9.2.symm
            have IE : Hid (RunI S w X w1.heap.size (w.heap.size + 1) w.heap.size w2.heap.size f s6 [Value.int .u16 (c : Int), .slice A1 n1 c1, .slice A2 n2 c2, .bool b1, .bool b2, .int .i32 pg, .bool false, .int .i64 0, .slice none 0 0, .bool false, .int .u16 0, .bool false, .int .i64 0] A1 n1 c1 A2 n2 c2 none 0 0 (l.map (·.2)) (nmsV (bitB f 6) l) [] _) := e4 ▸ I5nb.out
            clear h9 e4
            go_wp2_with fail
            go_meet
            exact ⟨Val.none, none, 0, 0, IE, e5⟩
          | true =>
            have h9 := opt_t (g := getValue) (d := Val.none) (HB3.out.symm)
            have H9 := Lib.hid h9; clear h9
            go_wp2_with fail
            refine (rdx_value I5nb.out.rd HS9.out).mono ?_
            rintro e5 w8 ⟨⟨B3, m3, d3, rfl, hv7⟩, ha7, hg7⟩
            obtain ⟨v, hv⟩ : ∃ v, v = gV Val.none getValue s5 := ⟨_, rfl⟩
            rw [← hv] at hv7 ⊢
            have hvv : v = gV Val.none (optR (bitB f 3) Val.none getValue) s5 := by rw [H9.out.2]; exact hv
            have HVV := Lib.hid hvv; clear hvv
            clear hv
            rw [← H9.out.1, ← Hs6.out] at ha7
            have I7 : Hid (RunI S w X w1.heap.size (w.heap.size + 1) w.heap.size w2.heap.size f s6 [Value.int .u16 (c : Int), .slice A1 n1 c1, .slice A2 n2 c2, .bool b1, .bool b2, .int .i32 pg, .bool true, .int .i64 0, .slice none 0 0, .bool false, .int .u16 0, .bool false, .int .i64 0] A1 n1 c1 A2 n2 c2 B3 m3 d3 (l.map (·.2)) (nmsV (bitB f 6) l) v.bytes w8) := by
              have h5 := I5nb.out.step hlt (by omega) (by omega) (by omega) (by omega) ha7 hg7
              exact ⟨h5.rd, h5.box, h5.res, h5.pr, h5.pf, h5.gr, ⟨h5.par.values, h5.par.names, goesSl.mono hv7 fun b hb _ => ⟨by (have hb2 : _ ≤ b := hb; simp at hb2; omega), by (have hb2 : _ ≤ b := hb; simp at hb2; omega), by (have hb2 : _ ≤ b := hb; simp at hb2; omega)⟩⟩⟩
            clear ha7 hg7 hv7
            clear q0 q1 q2 q3
            have q0 := I7.out.pr
            have q1 := I7.out.pf
            have q2 := I7.out.box.lt
            have q3 := I7.out.res.lt
            have y7 := I7.out.box.c 7 _ rfl
            have x7 := I7.out.box.fr 7
            have y8 := I7.out.box.c 8 _ rfl
            have x8 := I7.out.box.fr 8
            have I70 := Lib.hid (I7.out.put (by omega) (by omega) (by omega) (by omega) (by omega) 7 (.int .i64 v.kind) (by show 7 < 13; decide))
            have I71 := Lib.hid (I70.out.put (by omega) (by omega) (by omega) (by omega) (by omega) 8 (.slice B3 m3 d3) (by show 8 < 13; decide))
            go_wp2_with fail
            go_meet
            exact ⟨v, B3, m3, d3, I71, HVV⟩
        case rest =>
          obtain ⟨v, A3, n3, c3, I5nn, Hv⟩ := hcut
          obtain ⟨w7, hwo⟩ : ∃ wo, wo = wc := ⟨_, rfl⟩
          subst hwo
          clear q0 q1 q2 q3 k6 z6 k7 z7 k8 z8
          have q0 := I5nn.out.pr
          have q1 := I5nn.out.pf
          have q2 := I5nn.out.box.lt
          have q3 := I5nn.out.res.lt
          have k9 := I5nn.out.box.c 9 _ rfl
          have z9 := I5nn.out.box.fr 9
          have k10 := I5nn.out.box.c 10 _ rfl
          have z10 := I5nn.out.box.fr 10

          obtain ⟨b4, hb4⟩ : ∃ b, b = (okB s6 && bitB f 4) := ⟨_, rfl⟩
          have HB4 := Lib.hid hb4; clear hb4
          go_wp2_with fail
          refine (has_any (k := 4) I5nn.out.rd I5nn.out.pr I5nn.out.pf hf256 (by decide) (by rfl)).mono ?_
          rintro e9 w9 ⟨rfl, rfl⟩
          rw [← HB4.out]
          have I5nnb := Lib.hid (I5nn.out.put (by omega) (by omega) (by omega) (by omega) (by omega) 9 (.bool b4) (by show 9 < 13; decide))
          go_upto_if 81 with fail
          obtain ⟨s7, hs7⟩ : ∃ x, x = gR (optR (bitB f 4) 0 getCons) s6 := ⟨_, rfl⟩
          have Hs7 := Lib.hid hs7; clear hs7
          go_cut [] (fun wx => ∃ sr : Nat, Hid (RunI S w X w1.heap.size (w.heap.size + 1) w.heap.size w2.heap.size f s7 [Value.int .u16 (c : Int), .slice A1 n1 c1, .slice A2 n2 c2, .bool b1, .bool b2, .int .i32 pg, .bool b3, .int .i64 v.kind, .slice A3 n3 c3, .bool b4, .int .u16 (sr : Int), .bool false, .int .i64 0] A1 n1 c1 A2 n2 c2 A3 n3 c3 (l.map (·.2)) (nmsV (bitB f 6) l) v.bytes wx) ∧ Hid (sr = gV 0 (optR (bitB f 4) 0 getCons) s6))
          case first =>
            cases b4 with
            | false =>
              have h9 := opt_f (g := getCons) (d := 0) (HB4.out.symm)
              have e4 : s7 = s6 := Hs7.out.trans h9.1
              have e5 := Lib.hid h9.2.symm
              have IE : Hid (RunI S w X w1.heap.size (w.heap.size + 1) w.heap.size w2.heap.size f s7 [Value.int .u16 (c : Int), .slice A1 n1 c1, .slice A2 n2 c2, .bool b1, .bool b2, .int .i32 pg, .bool b3, .int .i64 v.kind, .slice A3 n3 c3, .bool false, .int .u16 0, .bool false, .int .i64 0] A1 n1 c1 A2 n2 c2 A3 n3 c3 (l.map (·.2)) (nmsV (bitB f 6) l) v.bytes _) := e4 ▸ I5nnb.out
              clear h9 e4
              go_wp2_with fail
              go_meet
              exact ⟨0, IE, e5⟩
            | true =>
              have h9 := opt_t (g := getCons) (d := 0) (HB4.out.symm)
              have H9 := Lib.hid h9; clear h9
              go_wp2_with fail
              refine (rdx_cons I5nnb.out.rd HS9.out).mono ?_
              rintro e5 w7 ⟨rfl, ha7, hg7⟩
              obtain ⟨sr, hsr⟩ : ∃ y, y = gV 0 getCons s6 := ⟨_, rfl⟩
              rw [← hsr]
              have HX5 : Hid (sr = gV 0 (optR (bitB f 4) 0 getCons) s6) := Lib.hid (by rw [H9.out.2]; exact hsr)
              clear hsr
              rw [← H9.out.1, ← Hs7.out] at ha7
              have I7 : Hid (RunI S w X w1.heap.size (w.heap.size + 1) w.heap.size w2.heap.size f s7 [Value.int .u16 (c : Int), .slice A1 n1 c1, .slice A2 n2 c2, .bool b1, .bool b2, .int .i32 pg, .bool b3, .int .i64 v.kind, .slice A3 n3 c3, .bool true, .int .u16 0, .bool false, .int .i64 0] A1 n1 c1 A2 n2 c2 A3 n3 c3 (l.map (·.2)) (nmsV (bitB f 6) l) v.bytes w7) := I5nnb.out.step hlt (by omega) (by omega) (by omega) (by omega) ha7 hg7
              clear ha7 hg7
              clear q0 q1 q2 q3
              have q0 := I7.out.pr
              have q1 := I7.out.pf
              have q2 := I7.out.box.lt
              have q3 := I7.out.res.lt
              have y10 := I7.out.box.c 10 _ rfl
              have x10 := I7.out.box.fr 10
              have I70 := Lib.hid (I7.out.put (by omega) (by omega) (by omega) (by omega) (by omega) 10 (.int .u16 (sr : Int)) (by show 10 < 13; decide))
              go_wp2_with fail
              go_meet
              exact ⟨sr, I70, HX5⟩
          case rest =>
            obtain ⟨sr, I5nnn, Hsr⟩ := hcut
            obtain ⟨w8, hwo⟩ : ∃ wo, wo = wc := ⟨_, rfl⟩
            subst hwo
            clear q0 q1 q2 q3 k9 z9 k10 z10
            have q0 := I5nnn.out.pr
            have q1 := I5nnn.out.pf
            have q2 := I5nnn.out.box.lt
            have q3 := I5nnn.out.res.lt
            have k11 := I5nnn.out.box.c 11 _ rfl
            have z11 := I5nnn.out.box.fr 11
            have k12 := I5nnn.out.box.c 12 _ rfl
            have z12 := I5nnn.out.box.fr 12

            obtain ⟨b5, hb5⟩ : ∃ b, b = (okB s7 && bitB f 5) := ⟨_, rfl⟩
            have HB5 := Lib.hid hb5; clear hb5
            go_wp2_with fail
            refine (has_any (k := 5) I5nnn.out.rd I5nnn.out.pr I5nnn.out.pf hf256 (by decide) (by rfl)).mono ?_
            rintro e9 w9 ⟨rfl, rfl⟩
            rw [← HB5.out]
            have I5nnnb := Lib.hid (I5nnn.out.put (by omega) (by omega) (by omega) (by omega) (by omega) 11 (.bool b5) (by show 11 < 13; decide))
            go_upto_if 89 with fail
            obtain ⟨s8, hs8⟩ : ∃ x, x = gR (optR (bitB f 5) 0 getI8) s7 := ⟨_, rfl⟩
            have Hs8 := Lib.hid hs8; clear hs8
            go_cut [] (fun wx => ∃ tm, Hid (RunI S w X w1.heap.size (w.heap.size + 1) w.heap.size w2.heap.size f s8 [Value.int .u16 (c : Int), .slice A1 n1 c1, .slice A2 n2 c2, .bool b1, .bool b2, .int .i32 pg, .bool b3, .int .i64 v.kind, .slice A3 n3 c3, .bool b4, .int .u16 (sr : Int), .bool b5, .int .i64 tm] A1 n1 c1 A2 n2 c2 A3 n3 c3 (l.map (·.2)) (nmsV (bitB f 6) l) v.bytes wx) ∧ Hid (tm = gV 0 (optR (bitB f 5) 0 getI8) s7))
            case first =>
              cases b5 with
              | false =>
                have h9 := opt_f (g := getI8) (d := (0 : Int)) (HB5.out.symm)
                have e4 : s8 = s7 := Hs8.out.trans h9.1
                have e5 := Lib.hid h9.2.symm
                have IE : Hid (RunI S w X w1.heap.size (w.heap.size + 1) w.heap.size w2.heap.size f s8 [Value.int .u16 (c : Int), .slice A1 n1 c1, .slice A2 n2 c2, .bool b1, .bool b2, .int .i32 pg, .bool b3, .int .i64 v.kind, .slice A3 n3 c3, .bool b4, .int .u16 (sr : Int), .bool false, .int .i64 0] A1 n1 c1 A2 n2 c2 A3 n3 c3 (l.map (·.2)) (nmsV (bitB f 6) l) v.bytes _) := e4 ▸ I5nnnb.out
                clear h9 e4
                go_wp2_with fail
                go_meet
                exact ⟨0, IE, e5⟩
              | true =>
                have h9 := opt_t (g := getI8) (d := 0) (HB5.out.symm)
                have H9 := Lib.hid h9; clear h9
                go_wp2_with fail
                refine (rnumq_any (k := 8) I5nnnb.out.rd HS9.out (by omega) (by omega)).mono ?_
                rintro e5 w7 ⟨rfl, ha7, hg7⟩
                obtain ⟨y4, hy4⟩ : ∃ y, y = gV 0 (getN 8) s7 := ⟨_, rfl⟩
                have hb4 : y4 < 18446744073709551616 := by rw [hy4]; exact gV_lt (n := 8) s7
                obtain ⟨x4, hx4⟩ : ∃ x, x = wrap64 (y4 : Int) := ⟨_, rfl⟩
                have hx5 : x4 = gV 0 (optR (bitB f 5) 0 getI8) s7 := by rw [H9.out.2, (i8_R s7).2, hx4, hy4, wrap64_sgn _ (gV_lt (n := 8) s7)]
                have HX5 := Lib.hid hx5; clear hx5
                rw [← (i8_R s7).1, ← H9.out.1, ← Hs8.out] at ha7
                rw [← hy4]
                clear hy4
                have I7 : Hid (RunI S w X w1.heap.size (w.heap.size + 1) w.heap.size w2.heap.size f s8 [Value.int .u16 (c : Int), .slice A1 n1 c1, .slice A2 n2 c2, .bool b1, .bool b2, .int .i32 pg, .bool b3, .int .i64 v.kind, .slice A3 n3 c3, .bool b4, .int .u16 (sr : Int), .bool true, .int .i64 0] A1 n1 c1 A2 n2 c2 A3 n3 c3 (l.map (·.2)) (nmsV (bitB f 6) l) v.bytes w7) := I5nnnb.out.step hlt (by omega) (by omega) (by omega) (by omega) ha7 hg7
                clear ha7 hg7
                clear q0 q1 q2 q3
                have q0 := I7.out.pr
                have q1 := I7.out.pf
                have q2 := I7.out.box.lt
                have q3 := I7.out.res.lt
                have y12 := I7.out.box.c 12 _ rfl
                have x12 := I7.out.box.fr 12
                have I70 := Lib.hid (I7.out.put (by omega) (by omega) (by omega) (by omega) (by omega) 12 (.int .i64 x4) (by show 12 < 13; decide))
                go_wp2_with fail
                try rw [← hx4]
                clear hx4
                go_meet
                exact ⟨x4, I70, HX5⟩
            case rest =>
              obtain ⟨tm, I5nnnn, Htm⟩ := hcut
              obtain ⟨w9, hwo⟩ : ∃ wo, wo = wc := ⟨_, rfl⟩
              subst hwo
              clear q0 q1 q2 q3 k11 z11 k12 z12
              have IL := I5nnnn
              clear I5nnnn
              have hgL := IL.out.gr.size
              have q0 := IL.out.pr
              have q1 := IL.out.pf
              have q2 := IL.out.box.lt
              have q3 := IL.out.res.lt
              have k0 := IL.out.box.c 0 _ rfl
              have k1 := IL.out.box.c 1 _ rfl
              have k2 := IL.out.box.c 2 _ rfl
              have k3 := IL.out.box.c 3 _ rfl
              have k4 := IL.out.box.c 4 _ rfl
              have k5 := IL.out.box.c 5 _ rfl
              have k6 := IL.out.box.c 6 _ rfl
              have k7 := IL.out.box.c 7 _ rfl
              have k8 := IL.out.box.c 8 _ rfl
              have k9 := IL.out.box.c 9 _ rfl
              have k10 := IL.out.box.c 10 _ rfl
              have k11 := IL.out.box.c 11 _ rfl
              have k12 := IL.out.box.c 12 _ rfl
              have m0 := IL.out.res.c 0 _ rfl
              have z0 := IL.out.res.fr 0
              have m1 := IL.out.res.c 1 _ rfl
              have z1 := IL.out.res.fr 1
              have m2 := IL.out.res.c 2 _ rfl
              have z2 := IL.out.res.fr 2
              have m3 := IL.out.res.c 3 _ rfl
              have z3 := IL.out.res.fr 3
              have m4 := IL.out.res.c 4 _ rfl
              have z4 := IL.out.res.fr 4
              have m5 := IL.out.res.c 5 _ rfl
              have z5 := IL.out.res.fr 5
              have m6 := IL.out.res.c 6 _ rfl
              have z6 := IL.out.res.fr 6
              have m7 := IL.out.res.c 7 _ rfl
              have z7 := IL.out.res.fr 7
              have m8 := IL.out.res.c 8 _ rfl
              have z8 := IL.out.res.fr 8
              have m9 := IL.out.res.c 9 _ rfl
              have z9 := IL.out.res.fr 9
              have m10 := IL.out.res.c 10 _ rfl
              have z10 := IL.out.res.fr 10
              have m11 := IL.out.res.c 11 _ rfl
              have z11 := IL.out.res.fr 11
              have m12 := IL.out.res.c 12 _ rfl
              have z12 := IL.out.res.fr 12

              go_wp2_with fail
              have HF9 := Lib.hid (run_fin HC.out HS1.out HF.out HS2.out HS3.out HS4.out HTL.out HB1.out HB2.out Hpg.out Hs5.out HB3.out Hv.out Hs6.out HB4.out Hsr.out Hs7.out HB5.out Htm.out Hs8.out)
              clear HC HS1 HF HS2 HS3 HS4 HTL HB1 HB2 Hpg Hs5 HB3 Hv Hs6 HB4 Hsr Hs7 HB5 Htm Hs8
              have H3 := Lib.hid (IL.out.res' (grow13 w9 (w.heap.size + 1) (.int .u16 (c : Int)) (.slice A1 n1 c1) (.slice A2 n2 c2) (.bool b1) (.bool b2) (.int .i32 pg) (.bool b3) (.int .i64 v.kind) (.slice A3 n3 c3) (.bool b4) (.int .u16 (sr : Int)) (.bool b5) (.int .i64 tm)) hlt (by omega))
              refine bodyPost_ret (v := .agg (parV ⟨c, l.map (·.2), nmsV (bitB f 6) l, b1, b2, pg, b3, v, b4, sr, b5, tm⟩ A1 n1 c1 A2 n2 c2 A3 n3 c3).toArray) (by simp only [parV]; simp [results, Try.results39]; go_simp) rfl ?_
              exact ⟨⟨c, l.map (·.2), nmsV (bitB f 6) l, b1, b2, pg, b3, v, b4, sr, b5, tm⟩, A1, n1, c1, A2, n2, c2, A3, n3, c3, rfl, H3.out.1, by rw [← HF9.out.1]; exact H3.out.2.1, H3.out.2.2, HF9.out.2⟩
end Go.Proofs.Sb
