/- Walks over the law's own texts, pairs, multis, entries: rows as the reference has them. Conditions: up to a million rows. (written by gen_law03.py) -/
import Derived.Test.YtfgdohdbabhplaaRefc
import Derived.Test.YtfgdohdbabhplaaReg
set_option linter.unusedVariables false
set_option linter.unusedSimpArgs false
namespace Go.Proofs.Sb
open Go.RowKit _root_.Sb

theorem Below.of_grown {w w' : World} {row : Option Nat} (hg : w.grownBy w' row) (hr : row = none) : Below w.heap.size w w' := Below.grown (Below.refl _ _) hg (Nat.le_refl _) fun k e => by rw [hr] at e; cases e
theorem tms {α β : Type} (f : α → β) {l : List α} {j : Nat} {y : α} (h : l[j]? = some y) : (l.take (j + 1)).map f = (l.take j).map f ++ [f y] := by
  obtain ⟨hj, rfl⟩ := List.getElem?_eq_some_iff.1 h
  rw [List.take_succ_eq_append_getElem hj, List.map_append]
  rfl

set_option maxHeartbeats 2000000 in
set_option maxRecDepth 100000 in
theorem ltexts_any {S S2 : Nat → Prop} {A : Option Addr} {n c : Nat} {l : List (B)} {w : World} (hs : Arr 1 (strP) S w A n c l) (hn : n ≤ 1000000) :
    Calls Try.prog 33 #[.slice A n c] w fun e w' => ∃ A1 n1 c1, e = .returned (.slice A1 n1 c1) ∧ OwnA 120 5 (itemP (fun _ => False) w) w.heap.size w' A1 n1 c1 (l.map .ofText) ∧ Below w.heap.size w w' := by
  have hlen := Lib.hid hs.len
  have hcap := hs.cap
  have hcm := hs.capMax
  have HS := Lib.hid hs.lt; clear hs
  go_enter Try.func33, Try.ntmps33
  go_wp2_with fail
  go_loopw [3, 4] (fun o i wr => ∃ k A2 m2 c2, k ≤ n ∧ i = .int .i64 (k : Nat) ∧ o = .slice A2 m2 c2 ∧ OwnA 120 5 (itemP (fun _ => False) w) w.heap.size wr A2 m2 c2 ((l.take k).map .ofText) ∧ Below w.heap.size w wr) (fun _ i _ => n - (intOf i).toNat)
  case atStart => exact ⟨0, none, 0, 0, by omega, rfl, rfl, OwnA.nil, Below.refl _ _⟩
  case round =>
    obtain ⟨k, A2, m2, c2, hk, rfl, rfl, hown, hbel⟩ := hrel
    have hsz := hbel.size
    have hml := hown.len (by decide)
    rw [List.length_map, List.length_take] at hml
    have hmk : m2 ≤ k := by omega
    clear hml
    by_cases hlt : k < n
    · obtain ⟨x, hx⟩ : ∃ x, l[k]? = some x := ⟨_, List.getElem?_eq_getElem (by have := hlen.out; omega)⟩
      have HS1 := Lib.hid (HS.out.after hbel)
      obtain ⟨b, o, rfl, hSb, hbs, HC⟩ := HS1.out.at (by decide) (by omega)
      obtain ⟨v, hv1, hp, hv2⟩ := HC k x hx
      obtain ⟨rfl, hxl⟩ := hp
      have hc0 := hv2 0 _ rfl
      simp only [Nat.mul_one, Nat.add_zero] at hc0
      clear hv1 hv2 HC
      have HX := Lib.hid hx; clear hx
      go_wp2_with (first | (at_builtin; refine wpList_appA rfl tyItem _ _ rfl w.heap.size _ _ _ ((l.take k).map .ofText) rfl (hown.after (by repeat (first | exact Below.refl _ _ | assumption | refine Below.drew ?_ | refine below_drewN ?_ _ | refine Below.alloc ?_ (by first | (simp; done) | omega | (simp; omega)) _ | refine Below.setCell ?_ (by first | (simp; done) | omega | (simp; omega)) _))) _ _ _ _ [.ofText x] rfl (arr_lit (P := itemP (fun _ => False) w) _ #[.string (str x), .string (str []), .slice none 0 0, .int .i64 0, .string (str [])] (.ofText x) rfl ⟨_, _, _, rfl, by simp [Thing.ofText]; omega, by simp [Thing.ofText], by simp [Thing.ofText, Val.none], Arr.nil⟩ (by simp)) itemP_one (fun _ _ _ h => h) (by omega) (by unfold maxLen; omega) (by simp; omega) ?_; intro A4 m4 c4 w3 hown3 hg3 hwh3))
      go_roundw
      case rel =>
        refine ⟨k + 1, _, _, _, by omega, by go_num, rfl, ?_, ?_⟩
        · rw [tms Thing.ofText HX.out]
          exact hown3
        · exact Below.grown (by repeat (first | exact Below.refl _ _ | assumption | refine Below.drew ?_ | refine below_drewN ?_ _ | refine Below.alloc ?_ (by first | (simp; done) | omega | (simp; omega)) _ | refine Below.setCell ?_ (by first | (simp; done) | omega | (simp; omega)) _)) hg3 (by simp; omega) fun b e => (hown.block b e).1
      case measure => simp [intOf]; omega
    · obtain rfl : k = n := by omega
      go_wp2_with fail
      go_ret
      have h0 : l.take k = l := List.take_of_length_le (by have := hlen.out; omega)
      rw [h0] at hown
      exact ⟨_, _, _, rfl, hown, hbel⟩

set_option maxHeartbeats 2000000 in
set_option maxRecDepth 100000 in
theorem lpairs_any {S S2 : Nat → Prop} {A : Option Addr} {n c : Nat} {l : List (B × B)} {w : World} (hs : Arr 2 (pairP) S w A n c l) (hn : n ≤ 1000000) :
    Calls Try.prog 38 #[.slice A n c] w fun e w' => ∃ A1 n1 c1, e = .returned (.slice A1 n1 c1) ∧ OwnA 120 5 (itemP (fun _ => False) w) w.heap.size w' A1 n1 c1 (l.map .ofPair) ∧ Below w.heap.size w w' := by
  have hlen := Lib.hid hs.len
  have hcap := hs.cap
  have hcm := hs.capMax
  have HS := Lib.hid hs.lt; clear hs
  go_enter Try.func38, Try.ntmps38
  go_wp2_with fail
  go_loopw [3, 4] (fun o i wr => ∃ k A2 m2 c2, k ≤ n ∧ i = .int .i64 (k : Nat) ∧ o = .slice A2 m2 c2 ∧ OwnA 120 5 (itemP (fun _ => False) w) w.heap.size wr A2 m2 c2 ((l.take k).map .ofPair) ∧ Below w.heap.size w wr) (fun _ i _ => n - (intOf i).toNat)
  case atStart => exact ⟨0, none, 0, 0, by omega, rfl, rfl, OwnA.nil, Below.refl _ _⟩
  case round =>
    obtain ⟨k, A2, m2, c2, hk, rfl, rfl, hown, hbel⟩ := hrel
    have hsz := hbel.size
    have hml := hown.len (by decide)
    rw [List.length_map, List.length_take] at hml
    have hmk : m2 ≤ k := by omega
    clear hml
    by_cases hlt : k < n
    · obtain ⟨x, hx⟩ : ∃ x, l[k]? = some x := ⟨_, List.getElem?_eq_getElem (by have := hlen.out; omega)⟩
      have HS1 := Lib.hid (HS.out.after hbel)
      obtain ⟨b, o, rfl, hSb, hbs, HC⟩ := HS1.out.at (by decide) (by omega)
      obtain ⟨v, hv1, hp, hv2⟩ := HC k x hx
      obtain ⟨rfl, hxl, hyl⟩ := hp
      have hc0 := hv2 0 _ rfl
      have hc1 := hv2 1 _ rfl
      simp only [Nat.add_zero] at hc0
      have hrow : some b ≠ A2.map (·.block) := fun e => by have := (hown.block b e.symm).1; have := hSb.2; omega
      have hE0 := AftR.each (W := wr.drew) hrow hc0
      have hE1 := AftR.each (W := wr.drew) hrow hc1
      clear hv1 hv2 HC
      have HX := Lib.hid hx; clear hx
      go_wp2_with fail
      refine regr_start (A2.map (·.block)) (by kernel_rfl) ?_
      (refine regr_take 0 (v := ?_) (by rfl) (by kernel_rfl) (by kernel_rfl) (by kernel_rfl) (by exact fun _ _ _ h => h) (by rfl) ?_ ?_; rotate_left; focus (intro w hSw; go_simp; try with_reducible rfl))
      simp only [Act.put, List.setIfInBounds_toArray, List.set_cons_zero, List.set_cons_succ]
      (refine regr_take 1 (v := ?_) (by rfl) (by kernel_rfl) (by kernel_rfl) (by kernel_rfl) (by exact fun _ _ _ h => h) (by rfl) ?_ ?_; rotate_left; focus (intro w hSw; go_simp; try with_reducible rfl))
      simp only [Act.put, List.setIfInBounds_toArray, List.set_cons_zero, List.set_cons_succ]
      (refine regr_take 2 (v := ?_) (by rfl) (by kernel_rfl) (by kernel_rfl) (by kernel_rfl) (by exact fun _ _ _ h => h) (by rfl) ?_ ?_; rotate_left; focus (intro w hSw; go_simp; try with_reducible rfl))
      simp only [Act.put, List.setIfInBounds_toArray, List.set_cons_zero, List.set_cons_succ]
      (refine regr_take 3 (v := ?_) (by rfl) (by kernel_rfl) (by kernel_rfl) (by kernel_rfl) (by exact fun _ _ _ h => h) (by rfl) ?_ ?_; rotate_left; focus (intro w hSw; go_simp; try with_reducible rfl))
      simp only [Act.put, List.setIfInBounds_toArray, List.set_cons_zero, List.set_cons_succ]
      (refine regr_take 4 (v := ?_) (by rfl) (by kernel_rfl) (by kernel_rfl) (by kernel_rfl) (by exact fun _ _ _ h => h) (by rfl) ?_ ?_; rotate_left; focus (intro w hSw; go_simp; try with_reducible rfl))
      simp only [Act.put, List.setIfInBounds_toArray, List.set_cons_zero, List.set_cons_succ]
      (refine regr_take 5 (v := ?_) (by rfl) (by kernel_rfl) (by kernel_rfl) (by kernel_rfl) (by exact fun _ _ _ h => h) (by rfl) ?_ ?_; rotate_left; focus (intro w hSw; go_simp; try with_reducible rfl))
      simp only [Act.put, List.setIfInBounds_toArray, List.set_cons_zero, List.set_cons_succ]
      (refine regr_take 6 (v := ?_) (by rfl) (by kernel_rfl) (by kernel_rfl) (by kernel_rfl) (by exact fun _ _ _ h => h) (by rfl) ?_ ?_; rotate_left; focus (intro w hSw; go_simp; try with_reducible rfl))
      simp only [Act.put, List.setIfInBounds_toArray, List.set_cons_zero, List.set_cons_succ]
      (refine regr_take 7 (v := ?_) (by rfl) (by kernel_rfl) (by kernel_rfl) (by kernel_rfl) (by exact fun _ _ _ h => h) (by rfl) ?_ ?_; rotate_left; focus (intro w hSw; go_simp; try with_reducible rfl))
      simp only [Act.put, List.setIfInBounds_toArray, List.set_cons_zero, List.set_cons_succ]
      (refine regr_take 8 (v := ?_) (by rfl) (by kernel_rfl) (by kernel_rfl) (by kernel_rfl) (by exact fun _ _ _ h => h) (by rfl) ?_ ?_; rotate_left; focus (intro w hSw; go_simp; try with_reducible rfl))
      simp only [Act.put, List.setIfInBounds_toArray, List.set_cons_zero, List.set_cons_succ]
      (refine regr_take 9 (v := ?_) (by rfl) (by kernel_rfl) (by kernel_rfl) (by kernel_rfl) (by exact fun _ _ _ h => h) (by rfl) ?_ ?_; rotate_left; focus (intro w hSw; go_simp; try with_reducible rfl))
      simp only [Act.put, List.setIfInBounds_toArray, List.set_cons_zero, List.set_cons_succ]
      (refine regr_take 10 (v := ?_) (by rfl) (by kernel_rfl) (by kernel_rfl) (by kernel_rfl) (by exact fun _ _ _ h => h) (by rfl) ?_ ?_; rotate_left; focus (intro w hSw; go_simp; try with_reducible rfl))
      simp only [Act.put, List.setIfInBounds_toArray, List.set_cons_zero, List.set_cons_succ]
      (refine regr_take 11 (v := ?_) (by rfl) (by kernel_rfl) (by kernel_rfl) (by kernel_rfl) (by exact fun _ _ _ h => h) (by rfl) ?_ ?_; rotate_left; focus (intro w hSw; go_simp; try with_reducible rfl))
      simp only [Act.put, List.setIfInBounds_toArray, List.set_cons_zero, List.set_cons_succ]
      refine regr_call 12 (by kernel_rfl) (by rfl) (fun K hK => ?_)
      go_simp
      refine hK.out _ _ ((by exact AftR.of (by repeat (first | exact Below.refl _ _ | exact below_undrew (Below.refl _ _) | assumption | refine Below.drew ?_ | refine below_drewN ?_ _ | refine Below.alloc ?_ (by simp) _ | refine Below.setCell ?_ (by simp) _)))) ?_
      clear hK K
      try simp only [Act.put, List.setIfInBounds_toArray, List.set_cons_zero, List.set_cons_succ]
      refine regr_call 13 (by kernel_rfl) (by rfl) (fun K hK => ?_)
      refine step_appA rfl tyItem _ _ rfl w.heap.size _ _ _ ((l.take k).map .ofPair) rfl (hown.after (by repeat (first | exact Below.refl _ _ | assumption | refine Below.drew ?_ | refine below_drewN ?_ _ | refine Below.alloc ?_ (by first | (simp; done) | omega | (simp; omega)) _ | refine Below.setCell ?_ (by first | (simp; done) | omega | (simp; omega)) _))) _ _ _ _ [.ofPair x] rfl (arr_lit (P := itemP (fun _ => False) w) _ #[.string (str x.1), .string (str x.2), .slice none 0 0, .int .i64 0, .string (str [])] (.ofPair x) rfl ⟨_, _, _, rfl, by simp [Thing.ofPair]; omega, by simp [Thing.ofPair]; omega, by simp [Thing.ofPair, Val.none], Arr.nil⟩ (by simp)) itemP_one (fun _ _ _ h => h) (by omega) (by unfold maxLen; omega) (by simp; omega) ?_; intro A4 m4 c4 w3 hown3 hg3 hwh3
      refine hK.out _ _ (hg3) ?_
      clear hK K
      try simp only [Act.put, List.setIfInBounds_toArray, List.set_cons_zero, List.set_cons_succ]
      (refine regr_take 14 (v := ?_) (by rfl) (by kernel_rfl) (by kernel_rfl) (by kernel_rfl) (by exact fun _ _ _ h => h) (by rfl) ?_ ?_; rotate_left; focus (intro w hSw; go_simp; try with_reducible rfl))
      simp only [Act.put, List.setIfInBounds_toArray, List.set_cons_zero, List.set_cons_succ]
      refine wpAnyH_done (by kernel_rfl) ?_ _
      clear hE0 hE1
      go_wp2_with fail
      go_roundw
      case rel =>
        refine ⟨k + 1, _, _, _, by omega, by go_num, rfl, ?_, ?_⟩
        · rw [tms Thing.ofPair HX.out]
          exact hown3
        · exact Below.grown (by repeat (first | exact Below.refl _ _ | assumption | refine Below.drew ?_ | refine below_drewN ?_ _ | refine Below.alloc ?_ (by first | (simp; done) | omega | (simp; omega)) _ | refine Below.setCell ?_ (by first | (simp; done) | omega | (simp; omega)) _)) hg3 (by simp; omega) fun b e => (hown.block b e).1
      case measure => simp [intOf]; omega
    · obtain rfl : k = n := by omega
      go_wp2_with fail
      go_ret
      have h0 : l.take k = l := List.take_of_length_le (by have := hlen.out; omega)
      rw [h0] at hown
      exact ⟨_, _, _, rfl, hown, hbel⟩

set_option maxHeartbeats 2000000 in
set_option maxRecDepth 100000 in
theorem lentries_any {S S2 : Nat → Prop} {A : Option Addr} {n c : Nat} {l : List (B × Val)} {w : World} (hs : Arr 3 (entryP S2 w) S w A n c l) (hn : n ≤ 1000000) :
    Calls Try.prog 44 #[.slice A n c] w fun e w' => ∃ A1 n1 c1, e = .returned (.slice A1 n1 c1) ∧ OwnA 120 5 (itemP (fun _ => False) w) w.heap.size w' A1 n1 c1 (l.map .ofEntry) ∧ Below w.heap.size w w' := by
  have hlen := Lib.hid hs.len
  have hcap := hs.cap
  have hcm := hs.capMax
  have HS := Lib.hid hs.lt; clear hs
  go_enter Try.func44, Try.ntmps44
  go_wp2_with fail
  go_loopw [3, 4] (fun o i wr => ∃ k A2 m2 c2, k ≤ n ∧ i = .int .i64 (k : Nat) ∧ o = .slice A2 m2 c2 ∧ OwnA 120 5 (itemP (fun _ => False) w) w.heap.size wr A2 m2 c2 ((l.take k).map .ofEntry) ∧ Below w.heap.size w wr) (fun _ i _ => n - (intOf i).toNat)
  case atStart => exact ⟨0, none, 0, 0, by omega, rfl, rfl, OwnA.nil, Below.refl _ _⟩
  case round =>
    obtain ⟨k, A2, m2, c2, hk, rfl, rfl, hown, hbel⟩ := hrel
    have hsz := hbel.size
    have hml := hown.len (by decide)
    rw [List.length_map, List.length_take] at hml
    have hmk : m2 ≤ k := by omega
    clear hml
    by_cases hlt : k < n
    · obtain ⟨x, hx⟩ : ∃ x, l[k]? = some x := ⟨_, List.getElem?_eq_getElem (by have := hlen.out; omega)⟩
      have HS1 := Lib.hid (HS.out.after hbel)
      obtain ⟨b, o, rfl, hSb, hbs, HC⟩ := HS1.out.at (by decide) (by omega)
      obtain ⟨v, hv1, hp, hv2⟩ := HC k x hx
      obtain ⟨A9, n9, c9, rfl, hxl, hsl⟩ := hp
      have hvl : x.2.bytes.length ≤ 9223372036854775807 := by have := hsl.len; have := hsl.cap; have := hsl.capMax; omega
      have hc0 := hv2 0 _ rfl
      have hc1 := hv2 1 _ rfl
      have hc2 : wr.cell? ⟨b, o + k * 3 + 1 + 1, none⟩ = some (.slice A9 n9 c9) := hv2 2 _ rfl
      simp only [Nat.add_zero] at hc0
      have hrow : some b ≠ A2.map (·.block) := fun e => by have := (hown.block b e.symm).1; have := hSb.2; omega
      have hE0 := AftR.each (W := wr.drew) hrow hc0
      have hE1 := AftR.each (W := wr.drew) hrow hc1
      have hE2 := AftR.each (W := wr.drew) hrow hc2
      have hcv : ∀ w', AftR (A2.map (·.block)) wr.drew w' → (convert 22 9 (.slice A9 n9 c9)).run Try.prog w' = .ok (.string (str x.2.bytes)) w' := fun w' h => conv_sl (((hsl.lt.after hbel).after (Below.refl _ wr).drew).grown h (fun b hb e => by have := (hown.block b e.symm).1; have := hb.2; omega))
      clear hv1 hv2 HC
      have HX := Lib.hid hx; clear hx
      go_wp2_with fail
      refine regr_start (A2.map (·.block)) (by kernel_rfl) ?_
      (refine regr_take 0 (v := ?_) (by rfl) (by kernel_rfl) (by kernel_rfl) (by kernel_rfl) (by exact fun _ _ _ h => h) (by rfl) ?_ ?_; rotate_left; focus (intro w hSw; go_simp; try with_reducible rfl))
      simp only [Act.put, List.setIfInBounds_toArray, List.set_cons_zero, List.set_cons_succ]
      (refine regr_take 1 (v := ?_) (by rfl) (by kernel_rfl) (by kernel_rfl) (by kernel_rfl) (by exact fun _ _ _ h => h) (by rfl) ?_ ?_; rotate_left; focus (intro w hSw; go_simp; try with_reducible rfl))
      simp only [Act.put, List.setIfInBounds_toArray, List.set_cons_zero, List.set_cons_succ]
      (refine regr_take 2 (v := ?_) (by rfl) (by kernel_rfl) (by kernel_rfl) (by kernel_rfl) (by exact fun _ _ _ h => h) (by rfl) ?_ ?_; rotate_left; focus (intro w hSw; go_simp; try with_reducible rfl))
      simp only [Act.put, List.setIfInBounds_toArray, List.set_cons_zero, List.set_cons_succ]
      (refine regr_take 3 (v := ?_) (by rfl) (by kernel_rfl) (by kernel_rfl) (by kernel_rfl) (by exact fun _ _ _ h => h) (by rfl) ?_ ?_; rotate_left; focus (intro w hSw; go_simp; try with_reducible rfl))
      simp only [Act.put, List.setIfInBounds_toArray, List.set_cons_zero, List.set_cons_succ]
      (refine regr_take 4 (v := ?_) (by rfl) (by kernel_rfl) (by kernel_rfl) (by kernel_rfl) (by exact fun _ _ _ h => h) (by rfl) ?_ ?_; rotate_left; focus (intro w hSw; go_simp; try with_reducible rfl))
      simp only [Act.put, List.setIfInBounds_toArray, List.set_cons_zero, List.set_cons_succ]
      (refine regr_take 5 (v := ?_) (by rfl) (by kernel_rfl) (by kernel_rfl) (by kernel_rfl) (by exact fun _ _ _ h => h) (by rfl) ?_ ?_; rotate_left; focus (intro w hSw; go_simp; try with_reducible rfl))
      simp only [Act.put, List.setIfInBounds_toArray, List.set_cons_zero, List.set_cons_succ]
      (refine regr_take 6 (v := ?_) (by rfl) (by kernel_rfl) (by kernel_rfl) (by kernel_rfl) (by exact fun _ _ _ h => h) (by rfl) ?_ ?_; rotate_left; focus (intro w hSw; go_simp; try with_reducible rfl))
      simp only [Act.put, List.setIfInBounds_toArray, List.set_cons_zero, List.set_cons_succ]
      (refine regr_take 7 (v := ?_) (by rfl) (by kernel_rfl) (by kernel_rfl) (by kernel_rfl) (by exact fun _ _ _ h => h) (by rfl) ?_ ?_; rotate_left; focus (intro w hSw; go_simp; try with_reducible rfl))
      simp only [Act.put, List.setIfInBounds_toArray, List.set_cons_zero, List.set_cons_succ]
      (refine regr_take 8 (v := ?_) (by rfl) (by kernel_rfl) (by kernel_rfl) (by kernel_rfl) (by exact fun _ _ _ h => h) (by rfl) ?_ ?_; rotate_left; focus (intro w hSw; go_simp; try with_reducible rfl))
      simp only [Act.put, List.setIfInBounds_toArray, List.set_cons_zero, List.set_cons_succ]
      (refine regr_take 9 (v := ?_) (by rfl) (by kernel_rfl) (by kernel_rfl) (by kernel_rfl) (by exact fun _ _ _ h => h) (by rfl) ?_ ?_; rotate_left; focus (intro w hSw; go_simp; try with_reducible rfl))
      simp only [Act.put, List.setIfInBounds_toArray, List.set_cons_zero, List.set_cons_succ]
      (refine regr_take 10 (v := ?_) (by rfl) (by kernel_rfl) (by kernel_rfl) (by kernel_rfl) (by exact fun _ _ _ h => h) (by rfl) ?_ ?_; rotate_left; focus (intro w hSw; go_simp; try with_reducible rfl))
      simp only [Act.put, List.setIfInBounds_toArray, List.set_cons_zero, List.set_cons_succ]
      (refine regr_take 11 (v := ?_) (by rfl) (by kernel_rfl) (by kernel_rfl) (by kernel_rfl) (by exact fun _ _ _ h => h) (by rfl) ?_ ?_; rotate_left; focus (intro w hSw; go_simp; try with_reducible rfl))
      simp only [Act.put, List.setIfInBounds_toArray, List.set_cons_zero, List.set_cons_succ]
      (refine regr_take 12 (v := ?_) (by rfl) (by kernel_rfl) (by kernel_rfl) (by kernel_rfl) (by exact fun _ _ _ h => h) (by rfl) ?_ ?_; rotate_left; focus (intro w hSw; go_simp; try with_reducible rfl))
      simp only [Act.put, List.setIfInBounds_toArray, List.set_cons_zero, List.set_cons_succ]
      (refine regr_take 13 (v := ?_) (by rfl) (by kernel_rfl) (by kernel_rfl) (by kernel_rfl) (by exact fun _ _ _ h => h) (by rfl) ?_ ?_; rotate_left; focus (intro w hSw; go_simp; try with_reducible rfl))
      simp only [Act.put, List.setIfInBounds_toArray, List.set_cons_zero, List.set_cons_succ]
      (refine regr_take 14 (v := ?_) (by rfl) (by kernel_rfl) (by kernel_rfl) (by kernel_rfl) (by exact fun _ _ _ h => h) (by rfl) ?_ ?_; rotate_left; focus (intro w hSw; go_simp; try with_reducible rfl))
      simp only [Act.put, List.setIfInBounds_toArray, List.set_cons_zero, List.set_cons_succ]
      (refine regr_take 15 (v := ?_) (by rfl) (by kernel_rfl) (by kernel_rfl) (by kernel_rfl) (by exact fun _ _ _ h => h) (by rfl) ?_ ?_; rotate_left; focus (intro w hSw; go_simp; try with_reducible rfl))
      simp only [Act.put, List.setIfInBounds_toArray, List.set_cons_zero, List.set_cons_succ]
      (refine regr_take 16 (v := ?_) (by rfl) (by kernel_rfl) (by kernel_rfl) (by kernel_rfl) (by exact fun _ _ _ h => h) (by rfl) ?_ ?_; rotate_left; focus (intro w hSw; go_simp; try with_reducible rfl))
      simp only [Act.put, List.setIfInBounds_toArray, List.set_cons_zero, List.set_cons_succ]
      (refine regr_take 17 (v := ?_) (by rfl) (by kernel_rfl) (by kernel_rfl) (by kernel_rfl) (by exact fun _ _ _ h => h) (by rfl) ?_ ?_; rotate_left; focus (intro w hSw; go_simp; try with_reducible rfl))
      simp only [Act.put, List.setIfInBounds_toArray, List.set_cons_zero, List.set_cons_succ]
      (refine regr_take 18 (v := ?_) (by rfl) (by kernel_rfl) (by kernel_rfl) (by kernel_rfl) (by exact fun _ _ _ h => h) (by rfl) ?_ ?_; rotate_left; focus (intro w hSw; go_simp; try with_reducible rfl))
      simp only [Act.put, List.setIfInBounds_toArray, List.set_cons_zero, List.set_cons_succ]
      (refine regr_take 19 (v := ?_) (by rfl) (by kernel_rfl) (by kernel_rfl) (by kernel_rfl) (by exact fun _ _ _ h => h) (by rfl) ?_ ?_; rotate_left; focus (intro w hSw; go_simp; try with_reducible rfl))
      simp only [Act.put, List.setIfInBounds_toArray, List.set_cons_zero, List.set_cons_succ]
      (refine regr_take 20 (v := ?_) (by rfl) (by kernel_rfl) (by kernel_rfl) (by kernel_rfl) (by exact fun _ _ _ h => h) (by rfl) ?_ ?_; rotate_left; focus (intro w hSw; go_simp; try with_reducible rfl))
      simp only [Act.put, List.setIfInBounds_toArray, List.set_cons_zero, List.set_cons_succ]
      refine regr_call 21 (by kernel_rfl) (by rfl) (fun K hK => ?_)
      go_simp
      refine hK.out _ _ ((by exact AftR.of (by repeat (first | exact Below.refl _ _ | exact below_undrew (Below.refl _ _) | assumption | refine Below.drew ?_ | refine below_drewN ?_ _ | refine Below.alloc ?_ (by simp) _ | refine Below.setCell ?_ (by simp) _)))) ?_
      clear hK K
      try simp only [Act.put, List.setIfInBounds_toArray, List.set_cons_zero, List.set_cons_succ]
      refine regr_call 22 (by kernel_rfl) (by rfl) (fun K hK => ?_)
      refine step_appA rfl tyItem _ _ rfl w.heap.size _ _ _ ((l.take k).map .ofEntry) rfl (hown.after (by repeat (first | exact Below.refl _ _ | assumption | refine Below.drew ?_ | refine below_drewN ?_ _ | refine Below.alloc ?_ (by first | (simp; done) | omega | (simp; omega)) _ | refine Below.setCell ?_ (by first | (simp; done) | omega | (simp; omega)) _))) _ _ _ _ [.ofEntry x] rfl (arr_lit (P := itemP (fun _ => False) w) _ #[.string (str x.1), .string (str []), .slice none 0 0, .int .i64 x.2.kind, .string (str x.2.bytes)] (.ofEntry x) rfl ⟨_, _, _, rfl, by simp [Thing.ofEntry]; omega, by simp [Thing.ofEntry], by simp [Thing.ofEntry]; omega, Arr.nil⟩ (by simp)) itemP_one (fun _ _ _ h => h) (by omega) (by unfold maxLen; omega) (by simp; omega) ?_; intro A4 m4 c4 w3 hown3 hg3 hwh3
      refine hK.out _ _ (hg3) ?_
      clear hK K
      try simp only [Act.put, List.setIfInBounds_toArray, List.set_cons_zero, List.set_cons_succ]
      (refine regr_take 23 (v := ?_) (by rfl) (by kernel_rfl) (by kernel_rfl) (by kernel_rfl) (by exact fun _ _ _ h => h) (by rfl) ?_ ?_; rotate_left; focus (intro w hSw; go_simp; try with_reducible rfl))
      simp only [Act.put, List.setIfInBounds_toArray, List.set_cons_zero, List.set_cons_succ]
      refine wpAnyH_done (by kernel_rfl) ?_ _
      clear hE0 hE1 hE2 hcv
      go_wp2_with fail
      go_roundw
      case rel =>
        refine ⟨k + 1, _, _, _, by omega, by go_num, rfl, ?_, ?_⟩
        · rw [tms Thing.ofEntry HX.out]
          exact hown3
        · exact Below.grown (by repeat (first | exact Below.refl _ _ | assumption | refine Below.drew ?_ | refine below_drewN ?_ _ | refine Below.alloc ?_ (by first | (simp; done) | omega | (simp; omega)) _ | refine Below.setCell ?_ (by first | (simp; done) | omega | (simp; omega)) _)) hg3 (by simp; omega) fun b e => (hown.block b e).1
      case measure => simp [intOf]; omega
    · obtain rfl : k = n := by omega
      go_wp2_with fail
      go_ret
      have h0 : l.take k = l := List.take_of_length_le (by have := hlen.out; omega)
      rw [h0] at hown
      exact ⟨_, _, _, rfl, hown, hbel⟩

set_option maxHeartbeats 2000000 in
set_option maxRecDepth 100000 in
theorem lmultis_any {S S2 : Nat → Prop} {A : Option Addr} {n c : Nat} {l : List (B × List B)} {w : World} (hs : Arr 2 (multiP S2 w) S w A n c l) (hv0 : ∀ x ∈ l, x.2.length ≤ 1000000) (hn : n ≤ 1000000) :
    Calls Try.prog 41 #[.slice A n c] w fun e w' => ∃ A1 n1 c1, e = .returned (.slice A1 n1 c1) ∧ OwnA 120 5 (itemP (fun b => w.heap.size ≤ b ∧ A1.map (·.block) ≠ some b) w') w.heap.size w' A1 n1 c1 (l.map .ofMulti) ∧ Below w.heap.size w w' := by
  have hlen := Lib.hid hs.len
  have hcap := hs.cap
  have hcm := hs.capMax
  have HS := Lib.hid hs.lt; clear hs
  go_enter Try.func41, Try.ntmps41
  go_wp2_with fail
  go_loopw [3, 4, 5] (fun o i _ wr => ∃ k A2 m2 c2, k ≤ n ∧ i = .int .i64 (k : Nat) ∧ o = .slice A2 m2 c2 ∧ OwnA 120 5 (itemP (fun b => w.heap.size ≤ b ∧ A2.map (·.block) ≠ some b) wr) w.heap.size wr A2 m2 c2 ((l.take k).map .ofMulti) ∧ Below w.heap.size w wr) (fun _ i _ _ => n - (intOf i).toNat)
  case atStart => exact ⟨0, none, 0, 0, by omega, rfl, rfl, OwnA.nil, Below.refl _ _⟩
  case round =>
    obtain ⟨k, A2, m2, c2, hk, rfl, rfl, hown, hbel⟩ := hrel
    have hsz := hbel.size
    have hml := hown.len (by decide)
    rw [List.length_map, List.length_take] at hml
    have hmk : m2 ≤ k := by omega
    clear hml
    by_cases hlt : k < n
    · obtain ⟨x, hx⟩ : ∃ x, l[k]? = some x := ⟨_, List.getElem?_eq_getElem (by have := hlen.out; omega)⟩
      have HS1 := Lib.hid (HS.out.after hbel)
      obtain ⟨b, o, rfl, hSb, hbs, HC⟩ := HS1.out.at (by decide) (by omega)
      obtain ⟨v, hv1, hp, hv2⟩ := HC k x hx
      obtain ⟨A9, n9, c9, rfl, hxl, hal⟩ := hp
      have hvl : n9 ≤ 1000000 := by have := hv0 x (List.mem_of_getElem? hx); have := hal.len; omega
      have HAL := Lib.hid ((hal.lt.after hbel).after (Below.refl _ wr)); clear hal
      have hc0 := hv2 0 _ rfl
      have hc1 := hv2 1 _ rfl
      simp only [Nat.add_zero] at hc0
      clear hv1 hv2 HC
      have HX := Lib.hid hx; clear hx
      have HV0 := Lib.hid hv0; clear hv0
      go_wp2_with (first | (at_builtin; refine wpList_appA rfl tyStr _ _ rfl wr.heap.size none 0 0 ([] : List B) rfl OwnA.nil _ A9 n9 c9 x.2 rfl (HAL.out.after (by repeat (first | exact Below.refl _ _ | assumption | refine Below.drew ?_ | refine below_drewN ?_ _ | refine Below.alloc ?_ (by first | (simp; done) | omega | (simp; omega)) _ | refine Below.setCell ?_ (by first | (simp; done) | omega | (simp; omega)) _))) strP_one (fun _ _ _ h => h) (by omega) (by unfold maxLen; omega) (by first | exact Nat.le_refl _ | (simp; done)) ?_; intro A7 m7 c7 w7 hown7 hg7 hwh7; have hd0 := gcell hg7 (by simp) hc0; clear hc0 hc1; have hz7 := hg7.size) | (at_builtin; refine wpList_appA rfl tyItem _ _ rfl w.heap.size _ _ _ ((l.take k).map .ofMulti) rfl (((hown.imp (P' := itemP (fun b => (w.heap.size ≤ b ∧ A2.map (·.block) ≠ some b) ∧ b < w7.heap.size) w7) fun y _ v h => h.imp fun A n c l h => ((h.lt.grown hg7 (by simp)).mono fun b h1 _ => ⟨h1.1, Nat.lt_of_lt_of_le h1.2 hz7⟩)).after (Below.of_grown hg7 (by simp))).after (by repeat (first | exact Below.refl _ _ | assumption | refine Below.drew ?_ | refine below_drewN ?_ _ | refine Below.alloc ?_ (by first | (simp; done) | omega | (simp; omega)) _ | refine Below.setCell ?_ (by first | (simp; done) | omega | (simp; omega)) _))) _ _ _ _ [.ofMulti x] rfl (arr_lit (P := itemP (fun b => (w.heap.size ≤ b ∧ A2.map (·.block) ≠ some b) ∧ b < w7.heap.size) w7) _ #[.string (str x.1), .string (str []), .slice A7 m7 c7, .int .i64 0, .string (str [])] (.ofMulti x) rfl ⟨_, _, _, rfl, by simp [Thing.ofMulti]; omega, by simp [Thing.ofMulti], by simp [Thing.ofMulti, Val.none], (hown7.arr (by decide)).mono fun b h1 h2 => ⟨⟨by omega, fun e => by have := (hown.block b e).2; omega⟩, h2⟩⟩ (by simp)) itemP_one (fun _ _ _ h => h) (by omega) (by unfold maxLen; omega) (by simp; omega) ?_; intro A4 m4 c4 w3 hown3 hg3 hwh3))
      go_roundw
      case rel =>
        refine ⟨k + 1, _, _, _, by omega, by go_num, rfl, ?_, ?_⟩
        · rw [tms Thing.ofMulti HX.out]
          exact hown3.imp fun y _ v h => h.imp fun A n c l h => ((h.after (by repeat (first | exact Below.refl _ _ | assumption | refine Below.drew ?_ | refine below_drewN ?_ _ | refine Below.alloc ?_ (by first | (simp; done) | omega | (simp; omega)) _ | refine Below.setCell ?_ (by first | (simp; done) | omega | (simp; omega)) _))).grown hg3 (fun b hb e => hb.1.2 e.symm)).mono fun b hb _ => ⟨hb.1.1, fun e => by rcases hwh3 b e with e2 | e2; exact hb.1.2 e2; (have := hb.2; simp at e2; omega)⟩
        · exact Below.grown ((Below.grown hbel hg7 hsz (by simp)).alloc (by omega) _) hg3 (by simp; omega) fun b e => (hown.block b e).1
      case measure => simp [intOf]; omega
    · obtain rfl : k = n := by omega
      go_wp2_with fail
      go_ret
      have h0 : l.take k = l := List.take_of_length_le (by have := hlen.out; omega)
      rw [h0] at hown
      exact ⟨_, _, _, rfl, hown, hbel⟩
end Go.Proofs.Sb
