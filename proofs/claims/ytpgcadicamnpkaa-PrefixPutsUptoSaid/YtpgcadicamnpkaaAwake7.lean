/- The walk over signalboxlaw07.awake: true. No conditions. -/
import Derived.Test.YtpgcadicamnpkaaPree
import Derived.Test.YtpgcadicamnpkaaPrec
set_option linter.unusedVariables false
set_option linter.unusedSimpArgs false
namespace Go.Proofs.Sb
open Go.RowKit _root_.Sb

set_option maxHeartbeats 2000000 in
set_option maxRecDepth 100000 in
theorem awake7 (w : World) : Calls Try.prog 7 #[] w fun e w' => e = .returned (.bool true) ∧ Below w.heap.size w w' := by
  go_enter Try.func7, Try.ntmps7
  go_wp2_with fail
  refine (preput_any (S0 := fun _ => True) (S2 := fun _ => True) (T2 := fun _ => True) (p := ⟨[], [[97]], []⟩) Sl.nil (arr_new _ #[.string (str [97])] [[97]] 1 ⟨[_], [], rfl, rfl, ⟨rfl, by decide⟩, rfl⟩ rfl (by decide) (by simp)) Arr.nil (by simp) (by omega) (by omega) (.ok ([0, 1, 0, 1, 97], 8)) (by kernel_rfl)).mono ?_
  rintro e w1 ⟨A1, m1, c1, rfl, ho1, hb1⟩
  have hb1 : Below w.heap.size w w1 := Below.trans (by repeat (first | exact Below.refl _ _ | assumption | refine Below.drew ?_ | refine below_drewN ?_ _ | refine Below.alloc ?_ (by simp) _ | refine Below.setCell ?_ (by simp) _)) (hb1.mono (by simp))
  go_wp2_with fail
  refine (resp_any (f := 8) (sl_lit _ _ 6 [0, 1, 0, 1, 97, 7] (by rfl) (by rfl) (by decide) (by simp)) (by decide) (by decide) (.ok (⟨[], [[97]], []⟩, [7])) (by kernel_rfl)).mono ?_
  rintro e w2 ⟨A2, m2, c2, A3, m3, c3, A4, m4, c4, A5, m5, c5, rfl, h2, h3, h4, h5, hb2⟩
  have hb2 : Below w1.heap.size w1 w2 := Below.trans (by repeat (first | exact Below.refl _ _ | assumption | refine Below.drew ?_ | refine below_drewN ?_ _ | refine Below.alloc ?_ (by simp) _ | refine Below.setCell ?_ (by simp) _)) (hb2.mono (by simp))
  obtain rfl : m3 = 1 := h3.len
  obtain rfl : m5 = 1 := h5.len
  clear h2 h3 h4 h5
  go_wp2_with fail
  refine (resp_any (f := 2) (sl_lit _ _ 1 [1] (by rfl) (by rfl) (by decide) (by simp)) (by decide) (by decide) (.error 10) (by kernel_rfl)).mono ?_
  rintro e w3 ⟨A6, m6, c6, A7, m7, c7, A8, m8, c8, A9, m9, c9, rfl, h6, h7, h8, h9, hb3⟩
  have p1 : w3.cell? ⟨w2.heap.size, 1, none⟩ = some (.slice A3 1 c3) := kcell hb3 (by go_simp)
  have hlt := World.block_lt_of_cell? w3 ⟨w2.heap.size, 1, none⟩ p1
  simp only at hlt
  have hb3 : Below w2.heap.size w2 w3 := Below.trans (by repeat (first | exact Below.refl _ _ | assumption | refine Below.drew ?_ | refine below_drewN ?_ _ | refine Below.alloc ?_ (by first | (simp; done) | omega | (simp; omega)) _ | refine Below.setCell ?_ (by first | (simp; done) | omega | (simp; omega)) _)) (hb3.mono (by simp; omega))
  have b13 := seqB hb2 hb3
  have b03 := seqB hb1 b13
  have hz3 := b03.size
  clear h6 h7 h8 h9
  have hcv := conv_sl ((ho1.after b13).sl.after (show Below w3.heap.size w3 (w3.alloc (.cells #[.slice A6 m6 c6, .slice A7 m7 c7, .slice A8 m8 c8] 26)) from (by repeat (first | exact Below.refl _ _ | assumption | refine Below.drew ?_ | refine below_drewN ?_ _ | refine Below.alloc ?_ (by simp) _ | refine Below.setCell ?_ (by simp) _))))
  go_wp2_with fail
  go_ret
  exact ⟨rfl, (by repeat (first | exact Below.refl _ _ | assumption | refine Below.drew ?_ | refine below_drewN ?_ _ | refine Below.alloc ?_ (by first | (simp; done) | omega | (simp; omega)) _ | refine Below.setCell ?_ (by first | (simp; done) | omega | (simp; omega)) _))⟩
end Go.Proofs.Sb
