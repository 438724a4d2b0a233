/- Walks over the law's own texts, pairs, multis, entries: rows as the reference has them. Conditions: up to a million rows. (written by gen_law03.py) -/
import Derived.Test.YtpgcadicamnpkaaLawcp
set_option linter.unusedVariables false
set_option linter.unusedSimpArgs false
namespace Go.Proofs.Sb
open Go.RowKit _root_.Sb

set_option maxHeartbeats 2000000 in
set_option maxRecDepth 100000 in
theorem l7texts_any {S S2 : Nat → Prop} {A : Option Addr} {n c : Nat} {l : List (B)} {w : World} (hs : Arr 1 (strP) S w A n c l) (hn : n ≤ 1000000) :
    Calls Try.prog 19 #[.slice A n c] w fun e w' => ∃ A1 n1 c1, e = .returned (.slice A1 n1 c1) ∧ OwnA 75 5 (itemP (fun _ => False) w) w.heap.size w' A1 n1 c1 (l.map .ofText) ∧ Below w.heap.size w w' := by
  have hlen := Lib.hid hs.len
  have hcap := hs.cap
  have hcm := hs.capMax
  have HS := Lib.hid hs.lt; clear hs
  go_enter Try.func19, Try.ntmps19
  go_wp2_with fail
  go_loopw [3, 4] (fun o i wr => ∃ k A2 m2 c2, k ≤ n ∧ i = .int .i64 (k : Nat) ∧ o = .slice A2 m2 c2 ∧ OwnA 75 5 (itemP (fun _ => False) w) w.heap.size wr A2 m2 c2 ((l.take k).map .ofText) ∧ Below w.heap.size w wr) (fun _ i _ => n - (intOf i).toNat)
  case atStart => exact ⟨0, none, 0, 0, by omega, rfl, rfl, OwnA.nil, Below.refl _ _⟩
  case round =>
    obtain ⟨k, A2, m2, c2, hk, rfl, rfl, hown, hbel⟩ := hrel
    have hsz := hbel.size
    have hml := hown.len (by decide)
    rw [List.length_map, List.length_take] at hml
    have hmk : m2 ≤ k := by omega
    clear hml
    by_cases hlt : k < n
    · obtain ⟨x, hx⟩ : ∃ x, l[k]? = some x := ⟨_, List.getElem?_eq_getElem (by have := hlen.out; omega)⟩
      have HS1 := Lib.hid (HS.out.after hbel)
      obtain ⟨b, o, rfl, hSb, hbs, HC⟩ := HS1.out.at (by decide) (by omega)
      obtain ⟨v, hv1, hp, hv2⟩ := HC k x hx
      obtain ⟨rfl, hxl⟩ := hp
      have hc0 := hv2 0 _ rfl
      simp only [Nat.mul_one, Nat.add_zero] at hc0
      clear hv1 hv2 HC
      have HX := Lib.hid hx; clear hx
      go_wp2_with (first | (at_builtin; refine wpList_appA rfl tyItem _ _ rfl w.heap.size _ _ _ ((l.take k).map .ofText) rfl (hown.after (by repeat (first | exact Below.refl _ _ | assumption | refine Below.drew ?_ | refine below_drewN ?_ _ | refine Below.alloc ?_ (by first | (simp; done) | omega | (simp; omega)) _ | refine Below.setCell ?_ (by first | (simp; done) | omega | (simp; omega)) _))) _ _ _ _ [.ofText x] rfl (arr_lit (P := itemP (fun _ => False) w) _ #[.string (str x), .string (str []), .slice none 0 0, .int .i64 0, .string (str [])] (.ofText x) rfl ⟨_, _, _, rfl, by simp [Thing.ofText]; omega, by simp [Thing.ofText], by simp [Thing.ofText, Val.none], Arr.nil⟩ (by simp)) itemP_one (fun _ _ _ h => h) (by omega) (by unfold maxLen; omega) (by simp; omega) ?_; intro A4 m4 c4 w3 hown3 hg3 hwh3))
      go_roundw
      case rel =>
        refine ⟨k + 1, _, _, _, by omega, by go_num, rfl, ?_, ?_⟩
        · rw [tms Thing.ofText HX.out]
          exact hown3
        · exact Below.grown (by repeat (first | exact Below.refl _ _ | assumption | refine Below.drew ?_ | refine below_drewN ?_ _ | refine Below.alloc ?_ (by first | (simp; done) | omega | (simp; omega)) _ | refine Below.setCell ?_ (by first | (simp; done) | omega | (simp; omega)) _)) hg3 (by simp; omega) fun b e => (hown.block b e).1
      case measure => simp [intOf]; omega
    · obtain rfl : k = n := by omega
      go_wp2_with fail
      go_ret
      have h0 : l.take k = l := List.take_of_length_le (by have := hlen.out; omega)
      rw [h0] at hown
      exact ⟨_, _, _, rfl, hown, hbel⟩

set_option maxHeartbeats 2000000 in
set_option maxRecDepth 100000 in
theorem l7entries_any {S S2 : Nat → Prop} {A : Option Addr} {n c : Nat} {l : List (B × Val)} {w : World} (hs : Arr 3 (entryP S2 w) S w A n c l) (hn : n ≤ 1000000) :
    Calls Try.prog 20 #[.slice A n c] w fun e w' => ∃ A1 n1 c1, e = .returned (.slice A1 n1 c1) ∧ OwnA 75 5 (itemP (fun _ => False) w) w.heap.size w' A1 n1 c1 (l.map .ofEntry) ∧ Below w.heap.size w w' := by
  have hlen := Lib.hid hs.len
  have hcap := hs.cap
  have hcm := hs.capMax
  have HS := Lib.hid hs.lt; clear hs
  go_enter Try.func20, Try.ntmps20
  go_wp2_with fail
  go_loopw [3, 4] (fun o i wr => ∃ k A2 m2 c2, k ≤ n ∧ i = .int .i64 (k : Nat) ∧ o = .slice A2 m2 c2 ∧ OwnA 75 5 (itemP (fun _ => False) w) w.heap.size wr A2 m2 c2 ((l.take k).map .ofEntry) ∧ Below w.heap.size w wr) (fun _ i _ => n - (intOf i).toNat)
  case atStart => exact ⟨0, none, 0, 0, by omega, rfl, rfl, OwnA.nil, Below.refl _ _⟩
  case round =>
    obtain ⟨k, A2, m2, c2, hk, rfl, rfl, hown, hbel⟩ := hrel
    have hsz := hbel.size
    have hml := hown.len (by decide)
    rw [List.length_map, List.length_take] at hml
    have hmk : m2 ≤ k := by omega
    clear hml
    by_cases hlt : k < n
    · obtain ⟨x, hx⟩ : ∃ x, l[k]? = some x := ⟨_, List.getElem?_eq_getElem (by have := hlen.out; omega)⟩
      have HS1 := Lib.hid (HS.out.after hbel)
      obtain ⟨b, o, rfl, hSb, hbs, HC⟩ := HS1.out.at (by decide) (by omega)
      obtain ⟨v, hv1, hp, hv2⟩ := HC k x hx
      obtain ⟨A9, n9, c9, rfl, hxl, hsl⟩ := hp
      have hvl : x.2.bytes.length ≤ 9223372036854775807 := by have := hsl.len; have := hsl.cap; have := hsl.capMax; omega
      have hc0 := hv2 0 _ rfl
      have hc1 := hv2 1 _ rfl
      have hc2 : wr.cell? ⟨b, o + k * 3 + 1 + 1, none⟩ = some (.slice A9 n9 c9) := hv2 2 _ rfl
      simp only [Nat.add_zero] at hc0
      have hrow : some b ≠ A2.map (·.block) := fun e => by have := (hown.block b e.symm).1; have := hSb.2; omega
      have hE0 := AftR.each (W := wr.drew) hrow hc0
      have hE1 := AftR.each (W := wr.drew) hrow hc1
      have hE2 := AftR.each (W := wr.drew) hrow hc2
      have hcv : ∀ w', AftR (A2.map (·.block)) wr.drew w' → (convert 22 9 (.slice A9 n9 c9)).run Try.prog w' = .ok (.string (str x.2.bytes)) w' := fun w' h => conv_sl (((hsl.lt.after hbel).after (Below.refl _ wr).drew).grown h (fun b hb e => by have := (hown.block b e.symm).1; have := hb.2; omega))
      clear hv1 hv2 HC
      have HX := Lib.hid hx; clear hx
      go_wp2_with fail
      refine regr_start (A2.map (·.block)) (by kernel_rfl) ?_
      (refine regr_take 0 (v := ?_) (by rfl) (by kernel_rfl) (by kernel_rfl) (by kernel_rfl) (by exact fun _ _ _ h => h) (by rfl) ?_ ?_; rotate_left; focus (intro w hSw; go_simp; try with_reducible rfl))
      simp only [Act.put, List.setIfInBounds_toArray, List.set_cons_zero, List.set_cons_succ]
      (refine regr_take 1 (v := ?_) (by rfl) (by kernel_rfl) (by kernel_rfl) (by kernel_rfl) (by exact fun _ _ _ h => h) (by rfl) ?_ ?_; rotate_left; focus (intro w hSw; go_simp; try with_reducible rfl))
      simp only [Act.put, List.setIfInBounds_toArray, List.set_cons_zero, List.set_cons_succ]
      (refine regr_take 2 (v := ?_) (by rfl) (by kernel_rfl) (by kernel_rfl) (by kernel_rfl) (by exact fun _ _ _ h => h) (by rfl) ?_ ?_; rotate_left; focus (intro w hSw; go_simp; try with_reducible rfl))
      simp only [Act.put, List.setIfInBounds_toArray, List.set_cons_zero, List.set_cons_succ]
      (refine regr_take 3 (v := ?_) (by rfl) (by kernel_rfl) (by kernel_rfl) (by kernel_rfl) (by exact fun _ _ _ h => h) (by rfl) ?_ ?_; rotate_left; focus (intro w hSw; go_simp; try with_reducible rfl))
      simp only [Act.put, List.setIfInBounds_toArray, List.set_cons_zero, List.set_cons_succ]
      (refine regr_take 4 (v := ?_) (by rfl) (by kernel_rfl) (by kernel_rfl) (by kernel_rfl) (by exact fun _ _ _ h => h) (by rfl) ?_ ?_; rotate_left; focus (intro w hSw; go_simp; try with_reducible rfl))
      simp only [Act.put, List.setIfInBounds_toArray, List.set_cons_zero, List.set_cons_succ]
      (refine regr_take 5 (v := ?_) (by rfl) (by kernel_rfl) (by kernel_rfl) (by kernel_rfl) (by exact fun _ _ _ h => h) (by rfl) ?_ ?_; rotate_left; focus (intro w hSw; go_simp; try with_reducible rfl))
      simp only [Act.put, List.setIfInBounds_toArray, List.set_cons_zero, List.set_cons_succ]
      (refine regr_take 6 (v := ?_) (by rfl) (by kernel_rfl) (by kernel_rfl) (by kernel_rfl) (by exact fun _ _ _ h => h) (by rfl) ?_ ?_; rotate_left; focus (intro w hSw; go_simp; try with_reducible rfl))
      simp only [Act.put, List.setIfInBounds_toArray, List.set_cons_zero, List.set_cons_succ]
      (refine regr_take 7 (v := ?_) (by rfl) (by kernel_rfl) (by kernel_rfl) (by kernel_rfl) (by exact fun _ _ _ h => h) (by rfl) ?_ ?_; rotate_left; focus (intro w hSw; go_simp; try with_reducible rfl))
      simp only [Act.put, List.setIfInBounds_toArray, List.set_cons_zero, List.set_cons_succ]
      (refine regr_take 8 (v := ?_) (by rfl) (by kernel_rfl) (by kernel_rfl) (by kernel_rfl) (by exact fun _ _ _ h => h) (by rfl) ?_ ?_; rotate_left; focus (intro w hSw; go_simp; try with_reducible rfl))
      simp only [Act.put, List.setIfInBounds_toArray, List.set_cons_zero, List.set_cons_succ]
      (refine regr_take 9 (v := ?_) (by rfl) (by kernel_rfl) (by kernel_rfl) (by kernel_rfl) (by exact fun _ _ _ h => h) (by rfl) ?_ ?_; rotate_left; focus (intro w hSw; go_simp; try with_reducible rfl))
      simp only [Act.put, List.setIfInBounds_toArray, List.set_cons_zero, List.set_cons_succ]
      (refine regr_take 10 (v := ?_) (by rfl) (by kernel_rfl) (by kernel_rfl) (by kernel_rfl) (by exact fun _ _ _ h => h) (by rfl) ?_ ?_; rotate_left; focus (intro w hSw; go_simp; try with_reducible rfl))
      simp only [Act.put, List.setIfInBounds_toArray, List.set_cons_zero, List.set_cons_succ]
      (refine regr_take 11 (v := ?_) (by rfl) (by kernel_rfl) (by kernel_rfl) (by kernel_rfl) (by exact fun _ _ _ h => h) (by rfl) ?_ ?_; rotate_left; focus (intro w hSw; go_simp; try with_reducible rfl))
      simp only [Act.put, List.setIfInBounds_toArray, List.set_cons_zero, List.set_cons_succ]
      (refine regr_take 12 (v := ?_) (by rfl) (by kernel_rfl) (by kernel_rfl) (by kernel_rfl) (by exact fun _ _ _ h => h) (by rfl) ?_ ?_; rotate_left; focus (intro w hSw; go_simp; try with_reducible rfl))
      simp only [Act.put, List.setIfInBounds_toArray, List.set_cons_zero, List.set_cons_succ]
      (refine regr_take 13 (v := ?_) (by rfl) (by kernel_rfl) (by kernel_rfl) (by kernel_rfl) (by exact fun _ _ _ h => h) (by rfl) ?_ ?_; rotate_left; focus (intro w hSw; go_simp; try with_reducible rfl))
      simp only [Act.put, List.setIfInBounds_toArray, List.set_cons_zero, List.set_cons_succ]
      (refine regr_take 14 (v := ?_) (by rfl) (by kernel_rfl) (by kernel_rfl) (by kernel_rfl) (by exact fun _ _ _ h => h) (by rfl) ?_ ?_; rotate_left; focus (intro w hSw; go_simp; try with_reducible rfl))
      simp only [Act.put, List.setIfInBounds_toArray, List.set_cons_zero, List.set_cons_succ]
      (refine regr_take 15 (v := ?_) (by rfl) (by kernel_rfl) (by kernel_rfl) (by kernel_rfl) (by exact fun _ _ _ h => h) (by rfl) ?_ ?_; rotate_left; focus (intro w hSw; go_simp; try with_reducible rfl))
      simp only [Act.put, List.setIfInBounds_toArray, List.set_cons_zero, List.set_cons_succ]
      (refine regr_take 16 (v := ?_) (by rfl) (by kernel_rfl) (by kernel_rfl) (by kernel_rfl) (by exact fun _ _ _ h => h) (by rfl) ?_ ?_; rotate_left; focus (intro w hSw; go_simp; try with_reducible rfl))
      simp only [Act.put, List.setIfInBounds_toArray, List.set_cons_zero, List.set_cons_succ]
      (refine regr_take 17 (v := ?_) (by rfl) (by kernel_rfl) (by kernel_rfl) (by kernel_rfl) (by exact fun _ _ _ h => h) (by rfl) ?_ ?_; rotate_left; focus (intro w hSw; go_simp; try with_reducible rfl))
      simp only [Act.put, List.setIfInBounds_toArray, List.set_cons_zero, List.set_cons_succ]
      (refine regr_take 18 (v := ?_) (by rfl) (by kernel_rfl) (by kernel_rfl) (by kernel_rfl) (by exact fun _ _ _ h => h) (by rfl) ?_ ?_; rotate_left; focus (intro w hSw; go_simp; try with_reducible rfl))
      simp only [Act.put, List.setIfInBounds_toArray, List.set_cons_zero, List.set_cons_succ]
      (refine regr_take 19 (v := ?_) (by rfl) (by kernel_rfl) (by kernel_rfl) (by kernel_rfl) (by exact fun _ _ _ h => h) (by rfl) ?_ ?_; rotate_left; focus (intro w hSw; go_simp; try with_reducible rfl))
      simp only [Act.put, List.setIfInBounds_toArray, List.set_cons_zero, List.set_cons_succ]
      (refine regr_take 20 (v := ?_) (by rfl) (by kernel_rfl) (by kernel_rfl) (by kernel_rfl) (by exact fun _ _ _ h => h) (by rfl) ?_ ?_; rotate_left; focus (intro w hSw; go_simp; try with_reducible rfl))
      simp only [Act.put, List.setIfInBounds_toArray, List.set_cons_zero, List.set_cons_succ]
      refine regr_call 21 (by kernel_rfl) (by rfl) (fun K hK => ?_)
      go_simp
      refine hK.out _ _ ((by exact AftR.of (by repeat (first | exact Below.refl _ _ | exact below_undrew (Below.refl _ _) | assumption | refine Below.drew ?_ | refine below_drewN ?_ _ | refine Below.alloc ?_ (by simp) _ | refine Below.setCell ?_ (by simp) _)))) ?_
      clear hK K
      try simp only [Act.put, List.setIfInBounds_toArray, List.set_cons_zero, List.set_cons_succ]
      refine regr_call 22 (by kernel_rfl) (by rfl) (fun K hK => ?_)
      refine step_appA rfl tyItem _ _ rfl w.heap.size _ _ _ ((l.take k).map .ofEntry) rfl (hown.after (by repeat (first | exact Below.refl _ _ | assumption | refine Below.drew ?_ | refine below_drewN ?_ _ | refine Below.alloc ?_ (by first | (simp; done) | omega | (simp; omega)) _ | refine Below.setCell ?_ (by first | (simp; done) | omega | (simp; omega)) _))) _ _ _ _ [.ofEntry x] rfl (arr_lit (P := itemP (fun _ => False) w) _ #[.string (str x.1), .string (str []), .slice none 0 0, .int .i64 x.2.kind, .string (str x.2.bytes)] (.ofEntry x) rfl ⟨_, _, _, rfl, by simp [Thing.ofEntry]; omega, by simp [Thing.ofEntry], by simp [Thing.ofEntry]; omega, Arr.nil⟩ (by simp)) itemP_one (fun _ _ _ h => h) (by omega) (by unfold maxLen; omega) (by simp; omega) ?_; intro A4 m4 c4 w3 hown3 hg3 hwh3
      refine hK.out _ _ (hg3) ?_
      clear hK K
      try simp only [Act.put, List.setIfInBounds_toArray, List.set_cons_zero, List.set_cons_succ]
      (refine regr_take 23 (v := ?_) (by rfl) (by kernel_rfl) (by kernel_rfl) (by kernel_rfl) (by exact fun _ _ _ h => h) (by rfl) ?_ ?_; rotate_left; focus (intro w hSw; go_simp; try with_reducible rfl))
      simp only [Act.put, List.setIfInBounds_toArray, List.set_cons_zero, List.set_cons_succ]
      refine wpAnyH_done (by kernel_rfl) ?_ _
      clear hE0 hE1 hE2 hcv
      go_wp2_with fail
      go_roundw
      case rel =>
        refine ⟨k + 1, _, _, _, by omega, by go_num, rfl, ?_, ?_⟩
        · rw [tms Thing.ofEntry HX.out]
          exact hown3
        · exact Below.grown (by repeat (first | exact Below.refl _ _ | assumption | refine Below.drew ?_ | refine below_drewN ?_ _ | refine Below.alloc ?_ (by first | (simp; done) | omega | (simp; omega)) _ | refine Below.setCell ?_ (by first | (simp; done) | omega | (simp; omega)) _)) hg3 (by simp; omega) fun b e => (hown.block b e).1
      case measure => simp [intOf]; omega
    · obtain rfl : k = n := by omega
      go_wp2_with fail
      go_ret
      have h0 : l.take k = l := List.take_of_length_le (by have := hlen.out; omega)
      rw [h0] at hown
      exact ⟨_, _, _, rfl, hown, hbel⟩
end Go.Proofs.Sb
