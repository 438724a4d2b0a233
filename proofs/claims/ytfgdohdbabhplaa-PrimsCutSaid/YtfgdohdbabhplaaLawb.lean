/- Walks over the laws of layer 2: what they call. Conditions: lengths up to 2^47. -/
import Derived.Test.YtfgdohdbabhplaaPrims
import Derived.Test.YtfgdohdbabhplaaRefb
import Derived.Test.YtfgdohdbabhplaaReg
set_option linter.unusedVariables false
set_option linter.unusedSimpArgs false
namespace Go.Proofs.Sb
open Go.RowKit _root_.Sb

/-- signalboxlaw02.behind at an error -/
theorem behind_err (A : Option Addr) (c : Nat) (v q : Value) (e : Int) (w : World) (he : e ≠ 0) :
    Calls Try.prog 21 #[.slice A 0 c, v, q, .int .i64 e] w fun e w' => e = .returned (.bool true) ∧ w = w' := by
  have he2 : (e == 0) = false := by simpa using he
  go_enter Try.func21, Try.ntmps21
  go_wp2_with fail
  go_ret
  exact ⟨rfl, rfl⟩

theorem behind_ok {S S' : Nat → Prop} {A A2 : Option Addr} {n c m c2 q : Nat} {bs : B} {w : World} (hs : Sl S w A n c (bs.drop q)) (hs2 : Sl S' w A2 m c2 bs) (hq : q ≤ m) :
    Calls Try.prog 21 #[.slice A n c, .slice A2 m c2, .int .i64 (q : Int), .int .i64 0] w fun e w' => e = .returned (.bool true) ∧ Below w.heap.size w w' := by
  have hcut := run_cut A2 m c2 q .i64 hq
  have hcv := fun k => conv_sl (hs.after (below_self_drewN _ w k))
  have hcv2 := fun k => conv_sl ((hs2.cut q hq).after (below_self_drewN _ w k))
  have hmc := hs2.cap
  have hcm := hs2.capMax
  go_enter Try.func21, Try.ntmps21
  go_wp2_with fail
  go_quiet (fail)
  go_wp2_with fail
  go_ret
  exact ⟨by simp, (by repeat (first | exact Below.refl _ _ | assumption | refine Below.drew ?_ | refine below_drewN ?_ _ | refine Below.alloc ?_ (by simp) _ | refine Below.setCell ?_ (by simp) _))⟩

theorem behind_any {α : Type} {S S' : Nat → Prop} {A A2 : Option Addr} {n c m c2 q : Nat} {bs : B} {w : World} {r : Res α} (hs : Sl S w A n c (rrest r)) (hs2 : Sl S' w A2 m c2 bs) (hq : AtR bs q r) (he : ∀ e, r = .error e → e ≠ 0) :
    Calls Try.prog 21 #[.slice A n c, .slice A2 m c2, .int .i64 (q : Int), .int .i64 (rerr r)] w fun e w' => e = .returned (.bool true) ∧ Below w.heap.size w w' := by
  cases r with
  | error e =>
    have hn := hs.len
    simp at hn
    subst hn
    exact (behind_err A c _ _ e w (he e rfl)).mono fun e w' ⟨h1, h2⟩ => ⟨h1, h2 ▸ Below.refl _ _⟩
  | ok x =>
    have h1 := hq.drop
    simp only [rrest_ok, ← h1] at hs
    exact behind_ok hs hs2 (by have := hq.le; have := hs2.len; omega)

set_option maxHeartbeats 1000000 in
set_option maxRecDepth 100000 in
theorem awake2 (w : World) : Calls Try.prog 16 #[] w fun e w' => e = .returned (.bool true) ∧ Below w.heap.size w w' := by
  go_enter Try.func16, Try.ntmps16
  go_wp2_with fail
  refine (text_any [97, 98] _ (by decide) (.ok [0, 2, 97, 98]) (by kernel_rfl)).mono ?_
  rintro e w1 ⟨A1, m1, c1, rfl, ho1, hb1⟩
  go_wp2_with fail
  refine (value_any (v := ⟨1, []⟩) (S := fun _ => True) Sl.nil (by decide) (.ok [255, 255, 255, 254]) (by kernel_rfl)).mono ?_
  rintro e w2 ⟨A2, m2, c2, rfl, ho2, hb2⟩
  go_wp2_with fail
  refine (getLong_any (sl_lit _ _ 6 [0, 0, 0, 1, 97, 98] (by rfl) (by rfl) (by decide) (by simp)) (by decide) (.ok ([97], [98])) (by kernel_rfl)).mono ?_
  rintro e w3 ⟨A3, m3, c3, rfl, hs3, hb3⟩
  have hb3 : Below w2.heap.size w2 w3 := Below.trans (by repeat (first | exact Below.refl _ _ | assumption | refine Below.drew ?_ | refine below_drewN ?_ _ | refine Below.alloc ?_ (by simp) _ | refine Below.setCell ?_ (by simp) _)) (hb3.mono (by simp))
  go_wp2_with fail
  refine (getValue_any (sl_lit _ _ 4 [255, 255, 255, 253] (by rfl) (by rfl) (by decide) (by simp)) (by decide) (.error 11) (by kernel_rfl)).mono ?_
  rintro e w4 ⟨A4, m4, c4, A5, m5, c5, rfl, hs4, hs5, hb4⟩
  have hb4 : Below w3.heap.size w3 w4 := Below.trans (by repeat (first | exact Below.refl _ _ | assumption | refine Below.drew ?_ | refine below_drewN ?_ _ | refine Below.alloc ?_ (by simp) _ | refine Below.setCell ?_ (by simp) _)) (hb4.mono (by simp))
  go_wp2_with fail
  refine (consis_any 11 _ (by omega) (by omega) (.error 1) (by kernel_rfl)).mono ?_
  rintro e w5 ⟨A6, m6, c6, rfl, ho6, hb5⟩
  have hb5 : Below w4.heap.size w4 w5 := Below.trans (by repeat (first | exact Below.refl _ _ | assumption | refine Below.drew ?_ | refine below_drewN ?_ _ | refine Below.alloc ?_ (by simp) _ | refine Below.setCell ?_ (by simp) _)) (hb5.mono (by simp))
  have b25 := seqB hb3 (seqB hb4 hb5)
  have b15 := seqB hb2 b25
  have b05 := seqB hb1 b15
  have hcv := conv_sl (ho1.after b15).sl
  obtain rfl : m2 = 4 := ho2.len
  obtain rfl : m3 = 1 := hs3.len
  obtain ⟨b2, o2, rfl, _, _, HC⟩ := (ho2.after b25).sl.addr (by decide)
  have hcell : w5.cell? ⟨b2, o2 + 3, none⟩ = some (.int .u8 254) := HC.out 3 (by decide)
  clear HC hb1 hb2 hb3 hb4 hb5 ho1 ho2 hs3 hs4 hs5 ho6 b25 b15
  go_wp2_with fail
  go_ret
  exact ⟨rfl, b05⟩
end Go.Proofs.Sb
