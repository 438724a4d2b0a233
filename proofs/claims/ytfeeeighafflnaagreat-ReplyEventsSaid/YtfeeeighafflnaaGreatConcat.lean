/- Walks over slices.Grow of a nil slice and slices.Concat, of bytes. Conditions: the sum of the lengths between 1 and 2^47. -/
import Derived.Test.YtfeeeighafflnaaGreatArr
import Derived.Lib.AppendZerosOnto
import Derived.Lib.Walk
import Derived.Lib.SliceRun
set_option linter.unusedVariables false
set_option linter.unusedSimpArgs false
namespace Go.Proofs.Sb
open Go.RowKit _root_.Sb

/-- the cells of a slice that reads as bytes -/
def bsP (S : Nat → Prop) (w : World) (bs : B) (v : List Value) : Prop := ∃ A n c, v = [.slice A n c] ∧ Sl S w A n c bs
theorem bsP.imp {S S' : Nat → Prop} {w w' : World} {p : B} {v : List Value} (h : bsP S w p v) (hi : ∀ A n c l, Sl S w A n c l → Sl S' w' A n c l) : bsP S' w' p v :=
  let ⟨A, n, c, h1, h2⟩ := h; ⟨A, n, c, h1, hi _ _ _ _ h2⟩
theorem bss_move {S T : Nat → Prop} {w w' : World} {A : Option Addr} {n c : Nat} {l : List B} (h : Arr 1 (bsP T w) S w A n c l) (hb : Below w.heap.size w w') : Arr 1 (bsP T w') S w' A n c l :=
  (h.after hb).imp fun _ _ _ h => h.imp fun _ _ _ _ h => h.after hb

set_option maxHeartbeats 1000000 in
set_option maxRecDepth 100000 in
theorem grow_any (n : Nat) (w : World) (h0 : 0 < n) (hn : n ≤ 140737488355328) :
    Calls Tryz.prog 104 #[.slice none 0 0, .int .i64 (n : Int)] w fun e w' => ∃ A c, e = .returned (.slice A 0 c) ∧ Own w.heap.size w' A 0 c [] ∧ Below w.heap.size w w' := by
  obtain ⟨i0, hi, hz0, hz1, hz2⟩ := info_parts u8info
  have hold : (Builtin.firstCells i0.size 0 (.slice none 0 0)).run Tryz.prog w.drew = .ok ([] : List Value).toArray w.drew := run_firstCells_none w.drew i0.size 0 0 0
  have hrz : ∀ ty, (Builtin.append_ #[25, 3] ty #[.slice none 0 0, .int .i64 (n : Int)]).run Tryz.prog w = _ := fun ty =>
    Lib.run_append_grow_zeros w 25 3 ty 5 i0 (.int .u8 0) .i64 .i64 Tryz.underlying25 Tryz.underlying3 hi hz0 none 0 0 [] hold n h0 (by omega) (by omega) (by omega) (by rw [hz2]; omega)
      (growslice_fits (by omega) (by rw [hz2]; omega))
  simp only [Nat.zero_add] at hrz
  have hG0 : n ≤ grownCap w n 0 5 := by have := grownCap_ge w n 0 5; omega
  have hG1 := grownCap_le_maxLen w n 0 5 (by unfold maxLen; omega)
  obtain ⟨G, hG⟩ : ∃ G, G = grownCap w n 0 5 := ⟨_, rfl⟩
  rw [← hG] at hrz hG0 hG1
  have HG1 := Lib.hid hG1
  unfold maxLen at hG1
  clear hold hG
  go_enter Tryz.func104, Tryz.ntmps104
  go_wp2_with (at_builtin; refine Lib.wpList_append_run _ rfl _ _ _ _ rfl _ _ rfl rfl _ _ (hrz _) ?_)
  all_goals
    go_ret
    refine ⟨_, _, rfl, ⟨rfl, .inr ⟨_, _, _, rfl, Nat.le_refl _, heap_alloc_new _ _, Nat.zero_le _, HG1.out, ?_, by simp [bv]⟩⟩, (by repeat (first | exact Below.refl _ _ | assumption | refine Below.drew ?_ | refine below_drewN ?_ _ | refine Below.alloc ?_ (by simp) _ | refine Below.setCell ?_ (by simp) _))⟩
    simp [Builtin.zeroCells, Value.cells]
    omega

theorem sum_takeC {ls : List B} {k : Nat} {x : B} (h : ls[k]? = some x) : ((ls.take (k + 1)).map List.length).sum = ((ls.take k).map List.length).sum + x.length := by
  obtain ⟨hk, rfl⟩ := List.getElem?_eq_some_iff.1 h
  rw [List.take_succ_eq_append_getElem hk, List.map_append, List.sum_append]
  simp
theorem flat_take {ls : List B} {k : Nat} {x : B} (h : ls[k]? = some x) : (ls.take (k + 1)).flatten = (ls.take k).flatten ++ x := by
  obtain ⟨hk, rfl⟩ := List.getElem?_eq_some_iff.1 h
  rw [List.take_succ_eq_append_getElem hk, List.flatten_append]
  simp
theorem sum_take_leC (ls : List B) (k : Nat) : ((ls.take k).map List.length).sum ≤ (ls.map List.length).sum := by
  have h := congrArg (fun l : List B => (l.map List.length).sum) (List.take_append_drop k ls)
  simp only [List.map_append, List.sum_append] at h
  omega
theorem flat_len (ls : List B) : ls.flatten.length = (ls.map List.length).sum := List.length_flatten

set_option maxHeartbeats 2000000 in
set_option maxRecDepth 100000 in
theorem concat_any {S S2 : Nat → Prop} {A : Option Addr} {n c : Nat} {ls : List B} {w : World} (hs : Arr 1 (bsP S2 w) S w A n c ls) (h0 : 0 < (ls.map List.length).sum) (hb : (ls.map List.length).sum ≤ 140737488355328) :
    Calls Tryz.prog 102 #[.slice A n c] w fun e w' => ∃ A' n' c', e = .returned (.slice A' n' c') ∧ Own w.heap.size w' A' n' c' ls.flatten ∧ Below w.heap.size w w' := by
  have hcap := hs.cap
  have hcm := hs.capMax
  have hlen := Lib.hid hs.len
  have HS := Lib.hid (hs.mono (S' := fun b => S b ∧ b < w.heap.size) fun _ h1 h2 => ⟨h1, h2⟩); clear hs
  obtain ⟨N, hN⟩ : ∃ N, (ls.map List.length).sum = N := ⟨_, rfl⟩
  rw [hN] at h0 hb
  have HN := Lib.hid hN; clear hN
  go_enter Tryz.func102, Tryz.ntmps102
  go_wp2_with fail
  go_loopw [3, 5, 11] (fun z _ i wr => ∃ k q : Nat, k ≤ n ∧ i = .int .i64 (k : Nat) ∧ z = .int .i64 (q : Nat) ∧ Hid (((ls.take k).map List.length).sum = q) ∧ w = wr) (fun _ _ i _ => n - (intOf i).toNat)
  case atStart => exact ⟨0, 0, by omega, rfl, rfl, rfl, rfl⟩
  case round =>
    obtain ⟨k, q, hk, rfl, rfl, HQ, rfl⟩ := hrel
    have hq : q ≤ N := by have h1 := sum_take_leC ls k; have := HQ.out; have := HN.out; omega
    by_cases hlt : k < n
    · obtain ⟨x, hx⟩ : ∃ x, ls[k]? = some x := ⟨_, List.getElem?_eq_getElem (by have := hlen.out; omega)⟩
      obtain ⟨b, o, rfl, hSb, hbs, HC⟩ := HS.out.at (by decide) (by omega)
      obtain ⟨v, hv1, ⟨A9, n9, c9, rfl, hx9⟩, hv2⟩ := HC k x hx
      have hc0 := hv2 0 _ rfl
      simp only [Nat.mul_one, Nat.add_zero] at hc0
      have hxl := Lib.hid hx9.len
      have hx9c := hx9.cap
      have hx9m := hx9.capMax
      have hst := sum_takeC hx
      have hqn : q + n9 ≤ N := by have h1 := sum_take_leC ls (k + 1); have := HQ.out; have := HN.out; have := hxl.out; omega
      have HST : Hid (((ls.take (k + 1)).map List.length).sum = q + n9) := by have := HQ.out; have := hxl.out; show _ = _; omega
      clear hst hv1 hv2 HC
      have HX := Lib.hid hx; clear hx
      go_wp2_with fail
      refine ⟨⟨k + 1, q + n9, by omega, by go_num, by go_num, HST, by first | trivial | rfl⟩, by simp [intOf]; omega⟩
    · obtain rfl : n = k := by omega
      obtain rfl : q = N := by
        have h1 := HQ.out
        rw [List.take_of_length_le (by have := hlen.out; omega)] at h1
        have := HN.out
        omega
      clear HQ
      go_wp2_with fail
      refine (grow_any q _ h0 hb).mono ?_
      rintro e w1 ⟨A1, c1, rfl, ho1, hb1⟩
      have hz1 := hb1.size
      go_wp2_with fail
      go_loopw [6, 8, 27] (fun r _ i wr => ∃ k A2 m2 c2, k ≤ n ∧ i = .int .i64 (k : Nat) ∧ r = .slice A2 m2 c2 ∧ Own w.heap.size wr A2 m2 c2 (ls.take k).flatten ∧ Below w.heap.size w wr) (fun _ _ i _ => n - (intOf i).toNat)
      case atStart => exact ⟨0, A1, 0, c1, by omega, rfl, rfl, ho1, hb1⟩
      case round =>
        obtain ⟨k, A2, m2, c2, hk, rfl, rfl, hown, hbel⟩ := hrel
        have hsz := hbel.size
        by_cases hlt : k < n
        · obtain ⟨x, hx⟩ : ∃ x, ls[k]? = some x := ⟨_, List.getElem?_eq_getElem (by have := hlen.out; omega)⟩
          have HS1 := Lib.hid (bss_move HS.out hbel)
          obtain ⟨b, o, rfl, hSb, hbs, HC⟩ := HS1.out.at (by decide) (by omega)
          obtain ⟨v, hv1, ⟨A9, n9, c9, rfl, hx9⟩, hv2⟩ := HC k x hx
          have hc0 := hv2 0 _ rfl
          simp only [Nat.mul_one, Nat.add_zero] at hc0
          have hbd : (ls.take k).flatten.length + x.length ≤ 140737488355328 := by
            have h1 := sum_take_leC ls (k + 1)
            rw [sum_takeC hx] at h1
            rw [flat_len]
            have := HN.out
            omega
          have HFT := Lib.hid (flat_take hx)
          have hx9' := Lib.hid hx9; clear hx9
          clear hv1 hv2 HC
          have HX := Lib.hid hx; clear hx
          go_wp2_with (at_builtin; refine wpList_app rfl _ _ rfl w.heap.size _ _ _ (ls.take k).flatten rfl hown _ _ _ _ x rfl hx9'.out hbd hsz ?_; intro A4 m4 c4 w3 hown3 hg3)
          go_roundw
          case rel => exact ⟨k + 1, _, _, _, by omega, by go_num, rfl, by rw [HFT.out]; exact hown3, Below.grown hbel hg3 hsz fun b e => (hown.block b e).1⟩
          case measure => simp [intOf]; omega
        · obtain rfl : n = k := by omega
          have htk : (ls.take n).flatten = ls.flatten := by rw [List.take_of_length_le (by have := hlen.out; omega)]
          rw [htk] at hown
          clear htk
          go_wp2_with fail
          go_ret
          exact ⟨_, _, _, rfl, hown, hbel⟩
end Go.Proofs.Sb
