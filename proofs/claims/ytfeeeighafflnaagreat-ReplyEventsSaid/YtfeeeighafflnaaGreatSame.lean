/- A walk over signalboxref03.Same: two rows of the same items are the same. No conditions. -/
import Derived.Test.YtfeeeighafflnaaGreatRefc
import Derived.Test.YtfeeeighafflnaaGreatRole
set_option linter.unusedVariables false
set_option linter.unusedSimpArgs false
namespace Go.Proofs.Sb
open Go.RowKit _root_.Sb

set_option maxHeartbeats 4000000 in
set_option maxRecDepth 100000 in
theorem same_any {S S' T T' : Nat → Prop} {A A' : Option Addr} {n c n' c' : Nat} {l : List Thing} {w : World} (h1 : Arr 5 (itemP T w) S w A n c l) (h2 : Arr 5 (itemP T' w) S' w A' n' c' l) :
    Calls Tryz.prog 20 #[.slice A n c, .slice A' n' c'] w fun e w' => e = .returned (.bool true) ∧ Below w.heap.size w w' := by
  obtain rfl : n = n' := by rw [h1.len, h2.len]
  have hlen := Lib.hid h1.len
  have hcap := h1.cap
  have hcm := h1.capMax
  have hcap' := h2.cap
  have hcm' := h2.capMax
  have HS := Lib.hid h1; clear h1
  have HS' := Lib.hid h2; clear h2
  go_enter Tryz.func20, Tryz.ntmps20
  go_wp2_with fail
  go_loopw [5, 6] (fun i _ wr => ∃ k : Nat, k ≤ n ∧ i = .int .i64 (k : Nat) ∧ Below w.heap.size w wr) (fun i _ _ => n - (intOf i).toNat)
  case atStart => exact ⟨0, by omega, rfl, Below.refl _ _⟩
  case round =>
    obtain ⟨k, hk, rfl, hbel⟩ := hrel
    have hsz := hbel.size
    by_cases hlt : k < n
    · obtain ⟨x, hx⟩ : ∃ x, l[k]? = some x := ⟨_, List.getElem?_eq_getElem (by have := hlen.out; omega)⟩
      have HT := Lib.hid (HS.out.after hbel)
      have HT' := Lib.hid (HS'.out.after hbel)
      obtain ⟨b, o, rfl, hSb, hbs, HC⟩ := HT.out.at (by decide) (by omega)
      obtain ⟨v, hv1, ⟨A9, n9, c9, rfl, hx1, hx2, hx3, hx4⟩, hv2⟩ := HC k x hx
      have hc0 := hv2 0 _ rfl
      simp only [Nat.add_zero] at hc0
      have hc1 := hv2 1 _ rfl
      have hc2 := hv2 2 _ rfl
      have hc3 := hv2 3 _ rfl
      have hc4 : wr.cell? ⟨b, o + k * 5 + 3 + 1, none⟩ = some (.string (str x.value.bytes)) := hv2 4 _ rfl
      clear hv1 hv2 HC
      obtain ⟨b', o', rfl, hSb', hbs', HC'⟩ := HT'.out.at (by decide) (by omega)
      obtain ⟨v', hv1', ⟨A8, n8, c8, rfl, hy1, hy2, hy3, hy4⟩, hv2'⟩ := HC' k x hx
      have hd0 := hv2' 0 _ rfl
      simp only [Nat.add_zero] at hd0
      have hd1 := hv2' 1 _ rfl
      have hd2 := hv2' 2 _ rfl
      have hd3 := hv2' 3 _ rfl
      have hd4 : wr.cell? ⟨b', o' + k * 5 + 3 + 1, none⟩ = some (.string (str x.value.bytes)) := hv2' 4 _ rfl
      clear hv1' hv2' HC'
      obtain rfl : n8 = n9 := by rw [hy4.len, hx4.len]
      have hcap9 := hx4.cap
      have hcm9 := hx4.capMax
      have hcap8 := hy4.cap
      have hcm8 := hy4.capMax
      have HX4 := Lib.hid (hx4.after hbel); clear hx4
      have HY4 := Lib.hid (hy4.after hbel); clear hy4
      go_wp2_with fail
      go_quiet (fail)
      obtain ⟨wo, hwo⟩ : ∃ wo, wo = wr := ⟨_, rfl⟩
      subst hwo
      go_wp2_with fail
      go_loopw [6] (fun i wi => ∃ j : Nat, j ≤ n8 ∧ i = .int .i64 (j : Nat) ∧ Below wo.heap.size wo wi) (fun i _ => n8 - (intOf i).toNat)
      case atStart => exact ⟨0, by omega, rfl, (by repeat (first | exact Below.refl _ _ | assumption | refine Below.drew ?_ | refine below_drewN ?_ _ | refine Below.alloc ?_ (by simp) _ | refine Below.setCell ?_ (by simp) _))⟩
      case round =>
        obtain ⟨j, hj, rfl, hb9⟩ := hrel
        have he2 := kcell hb9 hc2
        have hf2 := kcell hb9 hd2
        by_cases hlj : j < n8
        · obtain ⟨y, hy⟩ : ∃ y, x.texts[j]? = some y := ⟨_, List.getElem?_eq_getElem (by have := HX4.out.len; omega)⟩
          have HX5 := Lib.hid (HX4.out.after hb9)
          have HY5 := Lib.hid (HY4.out.after hb9)
          obtain ⟨b5, o5, rfl, _, _, HC5⟩ := HX5.out.at (by decide) (by omega)
          obtain ⟨v5, hv5, ⟨rfl, _⟩, hv6⟩ := HC5 j y hy
          have hcy := hv6 0 _ rfl
          obtain ⟨b6, o6, rfl, _, _, HC6⟩ := HY5.out.at (by decide) (by omega)
          obtain ⟨v6, hv7, ⟨rfl, _⟩, hv8⟩ := HC6 j y hy
          have hdy := hv8 0 _ rfl
          simp only [Nat.mul_one, Nat.add_zero] at hcy hdy
          clear hv5 hv6 HC5 hv7 hv8 HC6
          have HYY := Lib.hid hy; clear hy
          have HX := Lib.hid hx; clear hx
          go_wp2_with fail
          go_quiet (fail)
          go_wp2_with fail
          refine ⟨⟨j + 1, by omega, by go_num, (by repeat (first | exact Below.refl _ _ | assumption | refine Below.drew ?_ | refine below_drewN ?_ _ | refine Below.alloc ?_ (by simp) _ | refine Below.setCell ?_ (by simp) _))⟩, by simp [intOf]; omega⟩
        · go_wp2_with fail
          refine ⟨⟨k + 1, by omega, by go_num, hbel.trans (hb9.mono hsz)⟩, by simp [intOf]; omega⟩
    · go_wp2_with fail
      go_ret
      exact ⟨rfl, hbel⟩
end Go.Proofs.Sb
