/- The walk over signalboxlaw02.PrimsValues: true at every input, and nothing that was there has turned. Conditions: a slice's length up to 2^63 - 1. -/
import Derived.Test.YtfgdohdbabhplaaLawb
set_option linter.unusedVariables false
set_option linter.unusedSimpArgs false
namespace Go.Proofs.Sb
open Go.RowKit _root_.Sb

theorem keep_cell {W w : World} (hb : Below W.heap.size W w) {b o : Nat} {v : Value} (h : W.cell? ⟨b, o, none⟩ = some v) : w.cell? ⟨b, o, none⟩ = some v :=
  (hb.cell (p := ⟨b, o, none⟩) (World.block_lt_of_cell? W _ h)).trans h

theorem getValue_ne {b : B} {e : Int} (h : getValue b = .error e) : e ≠ 0 := by
  unfold getValue at h
  cases hg : getNum b with
  | error e' => rw [hg] at h; injection h with h; have := getNum_err hg; omega
  | ok p =>
    obtain ⟨n, r⟩ := p
    rw [hg] at h
    simp only at h
    split at h
    · cases h
    · split at h
      · cases h
      · split at h
        · injection h; omega
        · cases ht : takeN n.toNat r with
          | error e' => rw [ht] at h; injection h with h; have := takeN_err ht; omega
          | ok q => obtain ⟨x, r2⟩ := q; rw [ht] at h; cases h

set_option maxHeartbeats 2000000 in
set_option maxRecDepth 100000 in
theorem primsValues_small {S S' : Nat → Prop} {A A0 : Option Addr} {m c m0 c0 : Nat} {bs : B} {v : Val} {w : World} (hv : Sl S' w A0 m0 c0 v.bytes) (hs : Sl S w A m c bs) (hm : m ≤ 3000) (hl : m0 ≤ 3000) :
    Calls Try.prog 3 #[.agg #[.int .i64 v.kind, .slice A0 m0 c0], .slice A m c] w fun e w' => e = .returned (.bool true) ∧ Below w.heap.size w w' := by
  obtain ⟨k, vb⟩ := v
  obtain ⟨rt, hrt⟩ : ∃ r, value ⟨k, vb⟩ = r := ⟨_, rfl⟩
  obtain ⟨rg, hrg⟩ : ∃ r, getValue bs = r := ⟨_, rfl⟩
  have hng : ∀ e, rg = .error e → e ≠ 0 := fun e h => getValue_ne (hrg.trans h)
  have HT := Lib.hid hrt; clear hrt
  have HG := Lib.hid hrg; clear hrg
  have HNG := Lib.hid hng; clear hng
  have hvl := Lib.hid hv.len
  simp only at hv hvl ⊢
  go_enter Try.func3, Try.ntmps3
  go_wp2_with fail
  refine (awake2 _).mono ?_
  rintro e w1 ⟨rfl, hb1⟩
  have p0 : w1.cell? ⟨w.heap.size, 0, none⟩ = some (.int .i64 k) := keep_cell hb1 (by go_simp)
  have p1 : w1.cell? ⟨w.heap.size, 1, none⟩ = some (.slice A0 m0 c0) := keep_cell hb1 (by go_simp)
  have hb1 : Below w.heap.size w w1 := Below.trans (by repeat (first | exact Below.refl _ _ | assumption | refine Below.drew ?_ | refine below_drewN ?_ _ | refine Below.alloc ?_ (by simp) _ | refine Below.setCell ?_ (by simp) _)) (hb1.mono (by simp))
  go_wp2_with fail
  refine (value_any (v := ⟨k, vb⟩) (hv.after hb1) (by omega) rt HT.out).mono ?_
  rintro e w2 ⟨A2, m2, c2, rfl, ho2, hb2⟩
  have p02 := keep_cell hb2 p0
  have p12 := keep_cell hb2 p1
  have hcv := conv_sl (hv.after (seqB hb1 hb2))
  go_wp2_with fail
  refine (rvalue_any ⟨k, vb⟩ _ (by have := hvl.out; simp only; omega) rt HT.out).mono ?_
  rintro e w3 ⟨A3, m3, c3, rfl, ho3, hb3⟩
  clear hcv p0 p1 p02 p12
  have hcv2 := conv_sl (ho2.after hb3).sl
  have hcv3 := conv_sl ho3.sl
  go_wp2_with fail
  have hs3 : Sl S w3 A m c bs := hs.after (seqB hb1 (seqB hb2 hb3))
  refine (getValue_any hs3 (by omega) rg HG.out).mono ?_
  rintro e w4 ⟨A4, m4, c4, A5, m5, c5, rfl, hs4, hs5, hb4⟩
  clear hcv2 hcv3
  go_wp2_with fail
  have hs4b : Sl S (w4.alloc (.cells #[.int .i64 (rval Val.none rg).kind, .slice A4 m4 c4] 24)) A m c bs := hs3.after (hb4.alloc hb4.size _)
  refine (rgetValue_any (a := 0) hs4b (by omega) (by omega) rg (by simpa using HG.out)).mono ?_
  rintro e w5 ⟨q5, rfl, hq5, hb5⟩
  have p0 : w5.cell? ⟨w4.heap.size, 0, none⟩ = some (.int .i64 (rval Val.none rg).kind) := keep_cell hb5 (by go_simp)
  have p1 : w5.cell? ⟨w4.heap.size, 1, none⟩ = some (.slice A4 m4 c4) := keep_cell hb5 (by go_simp)
  have hb5 : Below w4.heap.size w4 w5 := Below.trans (by repeat (first | exact Below.refl _ _ | assumption | refine Below.drew ?_ | refine below_drewN ?_ _ | refine Below.alloc ?_ (by simp) _ | refine Below.setCell ?_ (by simp) _)) (hb5.mono (by simp))
  have hsz5 : w4.heap.size < w5.heap.size := World.block_lt_of_cell? _ _ p0
  go_wp2_with fail
  have hb5c : Below w5.heap.size w5 (w5.alloc (.cells #[.int .i64 (rval Val.none rg).kind, .string (str (rval Val.none rg).bytes)] 31)) := (Below.refl _ _).alloc (Nat.le_refl _) _
  refine (behind_any (hs5.after (seqB hb5 hb5c)) (hs3.after (seqB hb4 (seqB hb5 hb5c))) hq5 HNG.out).mono ?_
  rintro e w6 ⟨rfl, hb6⟩
  have hcv := conv_sl (hs4.after (seqB (seqB hb5 hb5c) hb6))
  have r0 : w6.cell? ⟨w5.heap.size, 0, none⟩ = some (.int .i64 (rval Val.none rg).kind) := keep_cell hb6 (by go_simp)
  have r1 : w6.cell? ⟨w5.heap.size, 1, none⟩ = some (.string (str (rval Val.none rg).bytes)) := keep_cell hb6 (by go_simp)
  have p06 := keep_cell (seqB hb5c hb6) p0
  have p16 := keep_cell (seqB hb5c hb6) p1
  clear p0 p1
  go_wp2_with fail
  go_ret
  exact ⟨by simp, seqB hb1 (seqB hb2 (seqB hb3 (seqB hb4 (seqB hb5 (seqB hb5c hb6)))))⟩

set_option maxRecDepth 100000 in
theorem primsValues_any {S S' : Nat → Prop} {A A0 : Option Addr} {m c m0 c0 : Nat} {bs : B} {v : Val} {w : World} (hv : Sl S' w A0 m0 c0 v.bytes) (hs : Sl S w A m c bs) :
    Calls Try.prog 3 #[.agg #[.int .i64 v.kind, .slice A0 m0 c0], .slice A m c] w fun e w' => e = .returned (.bool true) ∧ Below w.heap.size w w' := by
  by_cases h : m ≤ 3000 ∧ m0 ≤ 3000
  · exact primsValues_small hv hs h.1 h.2
  · have hmc := hs.cap
    have hcm := hs.capMax
    have hmc0 := hv.cap
    have hcm0 := hv.capMax
    have hx : 3000 < m0 ∨ 3000 < m := by omega
    clear h hs hv
    by_cases h2 : 3000 < m0
    all_goals
      go_enter Try.func3, Try.ntmps3
      go_wp2_with fail
      refine (awake2 _).mono ?_
      rintro e w1 ⟨rfl, hb1⟩
      have p0 : w1.cell? ⟨w.heap.size, 0, none⟩ = some (.int .i64 v.kind) := keep_cell hb1 (by go_simp)
      have p1 : w1.cell? ⟨w.heap.size, 1, none⟩ = some (.slice A0 m0 c0) := keep_cell hb1 (by go_simp)
      have hb1 : Below w.heap.size w w1 := Below.trans (by repeat (first | exact Below.refl _ _ | assumption | refine Below.drew ?_ | refine below_drewN ?_ _ | refine Below.alloc ?_ (by simp) _ | refine Below.setCell ?_ (by simp) _)) (hb1.mono (by simp))
      go_wp2_with fail
      all_goals (first | (go_ret; exact ⟨rfl, hb1⟩) | (exfalso; simp at *; omega))
end Go.Proofs.Sb
