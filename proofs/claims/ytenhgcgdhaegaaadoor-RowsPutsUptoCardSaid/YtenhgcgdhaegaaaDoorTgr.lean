/- Plain mathematics of a grid of values: put, got, cell by cell. No conditions. -/
import Derived.Test.YtenhgcgdhaegaaaDoorTaq
set_option linter.unusedVariables false
set_option linter.unusedSimpArgs false
namespace Sb
def colG (i : Nat) : Col := ⟨[115], [116], [UInt8.ofNat (97 + i)], ⟨3, [], [], [], []⟩⟩
def cellG (v : B) (i k : Nat) : Val := ⟨2, UInt8.ofNat i :: UInt8.ofNat k :: v⟩
def rowG (v : B) (w i : Nat) : List Val := (List.range w).map (cellG v i)
def gridT (w h : Nat) (v : B) : Tb := ⟨w, (List.range w).map colG, false, Val.none, (List.range h).map (rowG v w)⟩
theorem putsM_okG {α : Type} {f : α → Wr} : ∀ {l : List α}, (∀ x ∈ l, ∃ b, f x = .ok b) → ∃ b, putsM f l = .ok b
  | [], _ => ⟨[], rfl⟩
  | x :: l, h => by
    obtain ⟨a, ha⟩ := h x (List.mem_cons_self ..)
    obtain ⟨b, hb⟩ := putsM_okG (l := l) fun y hy => h y (List.mem_cons_of_mem _ hy)
    exact ⟨a ++ b, by rw [putsM, ha, hb]⟩
theorem sameT_grid (w : Nat) : sameT ((List.range w).map colG) = true := by
  cases h : (List.range w).map colG with
  | nil => rfl
  | cons c l =>
    show (l.all fun d => decide (d.space = c.space ∧ d.table = c.table)) = true
    rw [List.all_eq_true]
    have hm : ∀ x ∈ c :: l, x.space = [115] ∧ x.table = [116] := by
      rw [← h]
      intro x hx
      obtain ⟨i, _, rfl⟩ := List.mem_map.1 hx
      exact ⟨rfl, rfl⟩
    intro d hd
    have h1 := hm d (List.mem_cons_of_mem _ hd)
    have h2 := hm c (List.mem_cons_self ..)
    exact decide_eq_true ⟨by rw [h1.1, h2.1], by rw [h1.2, h2.2]⟩
theorem fits_grid {w h : Nat} {v : B} (hw : w < 8) (hh : h < 8) : fitsT (gridT w h v) true = true := by
  have hs : sameT (gridT w h v).cols = true := sameT_grid w
  have hr : (gridT w h v).rows.all (rowOk (gridT w h v).count) = true := by
    rw [List.all_eq_true]
    intro l hl
    obtain ⟨i, _, rfl⟩ := List.mem_map.1 hl
    unfold rowOk
    rw [Bool.and_eq_true]
    refine ⟨decide_eq_true (by unfold rowG gridT; simp), List.all_eq_true.2 fun x hx => ?_⟩
    obtain ⟨k, _, rfl⟩ := List.mem_map.1 hx
    rfl
  unfold fitsT
  rw [hs, hr]
  have : (0 : Int) ≤ (gridT w h v).count ∧ (gridT w h v).count ≤ 4096 ∧ (gridT w h v).rows.length ≤ 4096 ∧ ((gridT w h v).cols.length = 0 ∨ ((gridT w h v).cols.length : Int) = (gridT w h v).count) := by
    refine ⟨?_, ?_, ?_, .inr ?_⟩
    · show (0 : Int) ≤ (w : Int); omega
    · show (w : Int) ≤ 4096; omega
    · simp [gridT]; omega
    · simp [gridT]
  rw [decide_eq_true this]
  rfl
theorem put_grid {w h : Nat} {v : B} (hw : w < 8) (hh : h < 8) : ∃ b, putTb 1 (gridT w h v) true = .ok b := by
  unfold putTb
  rw [if_neg (by rw [fits_grid hw hh]; decide)]
  have ok2 : ∀ {a b : Wr}, (∃ x, a = .ok x) → (∃ x, b = .ok x) → ∃ x, bothW a b = .ok x := by
    rintro a b ⟨x, rfl⟩ ⟨y, rfl⟩
    exact ⟨x ++ y, rfl⟩
  have hc : ∀ x ∈ (gridT w h v).cols, (∃ b, nmsW x = .ok b) ∧ (∃ b, text x.name = .ok b) ∧ ∃ b, putW 1 x.type = .ok b := by
    intro x hx
    obtain ⟨i, _, rfl⟩ := List.mem_map.1 hx
    exact ⟨⟨_, rfl⟩, ⟨_, rfl⟩, ⟨[0, 3], by kernel_rfl⟩⟩
  unfold putT
  refine ok2 ⟨_, rfl⟩ (ok2 ⟨_, rfl⟩ (ok2 ⟨[], rfl⟩ (ok2 ?_ (ok2 ?_ (ok2 ⟨_, rfl⟩ ?_)))))
  · cases hq : (gridT w h v).cols with
    | nil => exact ⟨[], rfl⟩
    | cons c l =>
      unfold allW
      simp only
      split
      · exact (hc c (by rw [hq]; exact List.mem_cons_self ..)).1
      · exact ⟨[], rfl⟩
  · refine putsM_okG fun x hx => ?_
    obtain ⟨h1, h2, h3⟩ := hc x hx
    unfold colW
    refine ok2 ?_ (ok2 h2 h3)
    split
    · exact ⟨[], rfl⟩
    · exact h1
  · refine putsM_okG fun x hx => putsM_okG fun y hy => ?_
    obtain ⟨i, _, rfl⟩ := List.mem_map.1 hx
    obtain ⟨k, _, rfl⟩ := List.mem_map.1 hy
    exact ⟨_, rfl⟩
theorem grid_31 {w h : Nat} {v : B} (hv : v.length ≤ 100) : (gridT w h v).ok31 := by
  refine ⟨by show val31 Val.none; unfold val31 Val.none; simp, fun x hx y hy => ?_⟩
  obtain ⟨i, _, rfl⟩ := List.mem_map.1 hx
  obtain ⟨k, _, rfl⟩ := List.mem_map.1 hy
  unfold val31 cellG
  simp only [List.length_cons]
  omega
theorem grid_norm (w h : Nat) (v : B) : (gridT w h v).norm 1 = gridT w h v := by
  unfold Tb.norm gridT
  simp only [List.map_map]
  congr 1
  refine List.map_congr_left fun i _ => ?_
  show List.map Val.norm (rowG v w i) = rowG v w i
  unfold rowG
  rw [List.map_map]
  exact List.map_congr_left fun k _ => rfl
theorem first_grid : ∀ (w k : Fin 8), (k : Nat) < w → firstC [UInt8.ofNat (97 + k)] ((List.range w).map colG) = some (k : Nat) := by decide +kernel
theorem cell_grid {w h i k : Nat} {v : B} (hw : w < 8) (hi : i < h) (hk : k < w) : cellT (gridT w h v) (i : Int) [UInt8.ofNat (97 + k)] = some (cellG v i k) := by
  unfold cellT
  have hf : firstC [UInt8.ofNat (97 + k)] (gridT w h v).cols = some k := first_grid ⟨w, hw⟩ ⟨k, by omega⟩ hk
  rw [hf]
  simp only [if_neg (show ¬ (i : Int) < 0 by omega), Int.toNat_natCast]
  have h1 : (gridT w h v).rows[i]? = some (rowG v w i) := by
    show ((List.range h).map (rowG v w))[i]? = _
    rw [List.getElem?_map, List.getElem?_range hi]
    rfl
  rw [h1]
  show ((List.range w).map (cellG v i))[k]? = _
  rw [List.getElem?_map, List.getElem?_range hk]
  rfl
end Sb
