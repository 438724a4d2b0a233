/- The walk over signalboxlaw03.awake: true. No conditions. -/
import Derived.Test.YtfgdohdbabhplaaLawc
import Derived.Test.YtfgdohdbabhplaaMapsd
import Derived.Test.YtfgdohdbabhplaaArrb
set_option linter.unusedVariables false
set_option linter.unusedSimpArgs false
namespace Go.Proofs.Sb
open Go.RowKit _root_.Sb

/-- the cells of elements in a new block -/
theorem arr_new {α : Type} {k : Nat} {P : α → List Value → Prop} {e : TypeId} (w : World) (vs : Array Value) (l : List α) (n : Nat) (hl : Els k P l vs.toList) (hn : n = l.length) (hm : n ≤ maxLen) {g : Nat} (hg : g = w.heap.size) : Arr k P (fun b => b = w.heap.size) (w.alloc (.cells vs e)) (some ⟨g, 0, none⟩) n n l := by
  subst hg
  refine ⟨hn, Nat.le_refl _, hm, vs.toList, hl, fun _ => ⟨w.heap.size, 0, rfl, rfl, by simp, fun j u hu => ?_⟩⟩
  rw [Nat.zero_add]
  have e1 : (w.alloc (.cells vs e)).heap[w.heap.size]? = some (.cells vs e) := heap_alloc_new w _
  unfold World.cell?
  rw [e1]
  simpa using hu

set_option maxHeartbeats 1000000 in
set_option maxRecDepth 100000 in
theorem awake3 (w : World) : Calls Try.prog 30 #[] w fun e w' => e = .returned (.bool true) ∧ Below w.heap.size w w' := by
  go_enter Try.func30, Try.ntmps30
  go_wp2_with fail
  refine (texts_any (arr_new _ #[.string (str [97]), .string (str [98])] [[97], [98]] 2 ⟨[_], [_], rfl, rfl, ⟨rfl, by decide⟩, [_], [], rfl, rfl, ⟨rfl, by decide⟩, rfl⟩ rfl (by decide) (by simp)) (.ok [0, 2, 0, 1, 97, 0, 1, 98]) (by kernel_rfl)).mono ?_
  rintro e w1 ⟨A1, m1, c1, rfl, ho1, hb1⟩
  have hb1 : Below w.heap.size w w1 := Below.trans (by repeat (first | exact Below.refl _ _ | assumption | refine Below.drew ?_ | refine below_drewN ?_ _ | refine Below.alloc ?_ (by simp) _ | refine Below.setCell ?_ (by simp) _)) (hb1.mono (by simp))
  go_wp2_with fail
  refine (getPairs_any (sl_lit _ _ 8 [0, 1, 0, 1, 97, 0, 0, 9] (by rfl) (by rfl) (by decide) (by simp)) (by decide) (.ok ([([97], [])], [9])) (by kernel_rfl)).mono ?_
  rintro e w2 ⟨A2, m2, c2, A3, m3, c3, rfl, har2, hs3, hb2⟩
  have hb2 : Below w1.heap.size w1 w2 := Below.trans (by repeat (first | exact Below.refl _ _ | assumption | refine Below.drew ?_ | refine below_drewN ?_ _ | refine Below.alloc ?_ (by simp) _ | refine Below.setCell ?_ (by simp) _)) (hb2.mono (by simp))
  go_wp2_with fail
  refine (getMultis_any (sl_lit _ _ 2 [0, 1] (by rfl) (by rfl) (by decide) (by simp)) (by decide) (.error 10) (by kernel_rfl)).mono ?_
  rintro e w3 ⟨A4, m4, c4, A5, m5, c5, rfl, har4, hs5, hb3⟩
  have hb3 : Below w2.heap.size w2 w3 := Below.trans (by repeat (first | exact Below.refl _ _ | assumption | refine Below.drew ?_ | refine below_drewN ?_ _ | refine Below.alloc ?_ (by simp) _ | refine Below.setCell ?_ (by simp) _)) (hb3.mono (by simp))
  go_wp2_with fail
  refine (getEntries_any (sl_lit _ _ 8 [0, 1, 0, 0, 255, 255, 255, 255] (by rfl) (by rfl) (by decide) (by simp)) (by decide) (.ok ([([], ⟨0, []⟩)], [])) (by kernel_rfl)).mono ?_
  rintro e w4 ⟨A6, m6, c6, A7, m7, c7, rfl, har6, hs7, hb4⟩
  have hb4 : Below w3.heap.size w3 w4 := Below.trans (by repeat (first | exact Below.refl _ _ | assumption | refine Below.drew ?_ | refine below_drewN ?_ _ | refine Below.alloc ?_ (by simp) _ | refine Below.setCell ?_ (by simp) _)) (hb4.mono (by simp))
  have b24 := seqB hb3 hb4
  have b14 := seqB hb2 b24
  have b04 := seqB hb1 b14
  have hcv := conv_sl (ho1.after b14).sl
  obtain rfl : m2 = 1 := har2.len
  obtain rfl : m3 = 1 := hs3.len
  obtain rfl : m6 = 1 := har6.len
  obtain ⟨b2, o2, rfl, _, _, HC⟩ := (har2.after b24).at (by decide) (by decide)
  obtain ⟨v, hv1, ⟨rfl, _, _⟩, hv2⟩ := HC 0 _ rfl
  have hcell := hv2 0 _ rfl
  simp only [Nat.zero_mul, Nat.add_zero] at hcell
  clear HC hv1 hv2 hb1 hb2 hb3 hb4 ho1 har2 hs3 har4 hs5 har6 hs7 b24 b14
  go_wp2_with fail
  go_ret
  exact ⟨rfl, b04⟩
end Go.Proofs.Sb
