/- A table that is small enough, of parts of bounded bulk, is light. No conditions. -/
import Derived.Test.YtenhgcgdhaegaaaDoorArgsta
import Derived.Test.YtenhgcgdhaegaaaDoorTat
import Derived.Test.YtenhgcgdhaegaaaDoorTaq
set_option linter.unusedVariables false
set_option linter.unusedSimpArgs false
namespace Sb
theorem sum_leG {α : Type} (g : α → Nat) {M : Nat} : ∀ {l : List α}, (∀ x ∈ l, g x ≤ M) → (l.map g).sum ≤ l.length * M
  | [], _ => by simp
  | x :: l, h => by
    have h1 := h x (List.mem_cons_self ..)
    have h2 := sum_leG g (l := l) fun y hy => h y (List.mem_cons_of_mem _ hy)
    simp only [List.map_cons, List.sum_cons, List.length_cons, Nat.add_mul, Nat.one_mul]
    omega
theorem wt_slight {D : Nat} {t : Tb} (h : slightT D t = true) (hc : ∀ x ∈ t.cols, x.space.length ≤ 1048576 ∧ x.table.length ≤ 1048576 ∧ x.name.length ≤ 1048576) (hB : TbB 1048576 t) : wtT D t ≤ 10000000000 ∧ ∀ x ∈ t.cols, nD D x.type ≤ 200 := by
  obtain ⟨h1, h2, h3, h4⟩ := slight_parts h
  have hn : ∀ x ∈ t.cols, nD D x.type ≤ 200 := fun x hx => (few_size (h3 x hx)).2
  refine ⟨?_, hn⟩
  have s1 := sum_leG (colWt D) (M := 43145740) (l := t.cols) fun x hx => by
    obtain ⟨a, b, c⟩ := hc x hx
    have := hn x hx
    unfold colWt
    omega
  have s2 := sum_leG rowWt (M := 31457520) (l := t.rows) fun l hl => by
    have := sum_leG (fun v : Val => v.bytes.length + 4) (M := 1048580) (l := l) fun v hv => by have := hB.rs l hl v hv; omega
    have := h4 l hl
    unfold rowWt
    have : l.length * 1048580 ≤ 30 * 1048580 := Nat.mul_le_mul_right _ this
    omega
  have s3 : t.cols.length * 43145740 ≤ 20 * 43145740 := Nat.mul_le_mul_right _ h1
  have s4 : t.rows.length * 31457520 ≤ 20 * 31457520 := Nat.mul_le_mul_right _ h2
  have := hB.st
  unfold wtT
  omega
theorem ok31_of {t : Tb} (hB : TbB 1048576 t) : t.ok31 := ⟨by have := hB.st; unfold val31; omega, fun x hx v hv => by have := hB.rs x hx v hv; unfold val31; omega⟩
theorem putT_pos {D : Nat} {t : Tb} {one : Bool} {b : B} (h : putTb D t one = .ok b) : 0 < b.length := by
  unfold putTb at h
  split at h
  · cases h
  · unfold putT at h
    obtain ⟨x, y, h1, _, rfl⟩ := bothW_ok h
    injection h1 with h1
    rw [← h1, List.length_append, enc_length]
    omega
theorem putT_le {D : Nat} {t : Tb} {one : Bool} {b : B} (h : putTb D t one = .ok b) : b.length ≤ wtT D t := by
  unfold putTb at h
  split at h
  · cases h
  unfold putT at h
  obtain ⟨a1, b1, e1, g1, rfl⟩ := bothW_ok h
  obtain ⟨a2, b2, e2, g2, rfl⟩ := bothW_ok g1
  obtain ⟨a3, b3, e3, g3, rfl⟩ := bothW_ok g2
  obtain ⟨a4, b4, e4, g4, rfl⟩ := bothW_ok g3
  obtain ⟨a5, b5, e5, g5, rfl⟩ := bothW_ok g4
  obtain ⟨a6, b6, e6, e7, rfl⟩ := bothW_ok g5
  injection e1 with e1
  injection e2 with e2
  injection e6 with e6
  have l3 : a3.length ≤ t.state.bytes.length + 4 := by
    have := value_le t.state
    split at e3
    · rw [e3] at this; exact this
    · injection e3 with e3; subst e3; simp
  have l45 : a4.length + a5.length ≤ (t.cols.map (colWt D)).sum := by
    have hs : ∀ k, (wval (colSt D (oneT t one) t.cols k)).length ≤ ((t.cols.take k).map (colWt D)).sum := by
      intro k
      induction k with
      | zero => simp [colSt, wval]
      | succ k ih =>
        cases hx : t.cols[k]? with
        | none =>
          have hk : t.cols.length ≤ k := List.getElem?_eq_none_iff.1 hx
          rw [List.take_of_length_le hk] at ih
          rw [List.take_of_length_le (by omega)]
          have hc : colSt D (oneT t one) t.cols (k + 1) = colSt D (oneT t one) t.cols k ∨ t.cols = [] := by
            cases k with
            | zero => right; exact List.length_eq_zero_iff.1 (by omega)
            | succ k => left; unfold colSt; rw [if_neg (by omega), if_neg (by omega), List.take_of_length_le (by omega), List.take_of_length_le hk]
          rcases hc with hc | hc
          · rw [hc]; exact ih
          · rw [hc]; unfold colSt; rw [if_neg (by omega)]; cases oneT t one <;> simp [allW, putsM, bothW, wval]
        | some x =>
          rw [colSt_step hx, sum_takeG _ hx]
          have w2 : ∀ a b : Wr, (wval (bothW a b)).length ≤ (wval a).length + (wval b).length := by intro a b; cases a <;> cases b <;> simp [bothW, wval]
          have t1 := text_le x.name
          have t2 := putW_le D x.type
          have t3 : (wval (if (!oneT t one || decide (k = 0)) then nmsW x else .ok [])).length ≤ x.space.length + x.table.length + 4 := by
            split
            · unfold nmsW
              have := w2 (text x.space) (text x.table)
              have := text_le x.space
              have := text_le x.table
              omega
            · simp [wval]
          have u1 := w2 (bothW (bothW (colSt D (oneT t one) t.cols k) (if (!oneT t one || decide (k = 0)) then nmsW x else .ok [])) (text x.name)) (putW D x.type)
          have u2 := w2 (bothW (colSt D (oneT t one) t.cols k) (if (!oneT t one || decide (k = 0)) then nmsW x else .ok [])) (text x.name)
          have u3 := w2 (colSt D (oneT t one) t.cols k) (if (!oneT t one || decide (k = 0)) then nmsW x else .ok [])
          have hw : colWt D x = x.space.length + x.table.length + x.name.length + 6 + 200000 * nD D x.type := rfl
          omega
    have := hs t.cols.length
    rw [colSt_all, e4, e5, List.take_length] at this
    simpa [bothW, wval] using this
  have l7 : b6.length ≤ (t.rows.map rowWt).sum := putsM_sum (fun x _ b hb => putsM_sum (fun v _ b hb => by have := value_le v; rw [hb] at this; exact this) hb) e7
  have le1 : a1.length = 4 := by rw [← e1, enc_length]
  have le2 : a2.length = 4 := by rw [← e2, enc_length]
  have le6 : a6.length = 4 := by rw [← e6, enc_length]
  unfold wtT
  simp only [List.length_append]
  omega
theorem putTb_ne {D : Nat} {t : Tb} {one : Bool} {e : Int} (h : putTb D t one = .error e) : e ≠ 0 := by
  unfold putTb at h
  split at h
  · injection h with h; omega
  · rw [putT_eq] at h
    have bn : ∀ {a b : Wr}, (∀ e, a = .error e → e ≠ 0) → (∀ e, b = .error e → e ≠ 0) → ∀ e, bothW a b = .error e → e ≠ 0 := fun ha hb e h => bothW_ne ha hb h
    have ok : ∀ {b : B} (e : Int), (.ok b : Wr) = .error e → e ≠ 0 := fun e h => by cases h
    have tn : ∀ (s : B) (e : Int), text s = .error e → e ≠ 0 := fun s e h => text_ne h
    refine bn (bn (bn (bn (bn (bn ok ok) ok) ?_) ?_) ok) ?_ e h
    · intro e h
      split at h
      · exact value_ne h
      · cases h
    · intro e h
      rw [colSt_all] at h
      refine bn ?_ ?_ e h
      · intro e h
        unfold allW at h
        split at h
        · cases h
        · split at h
          · exact bn (tn _) (tn _) e h
          · cases h
      · intro e h
        refine putsM_ne (fun x _ => ?_) h
        refine bn ?_ (bn (tn _) fun e h => putW_nz h)
        intro e h
        split at h
        · cases h
        · exact bn (tn _) (tn _) e h
    · intro e h
      exact putsM_ne (fun x _ e h => putsM_ne (fun v _ e h => value_ne h) h) h
end Sb
namespace Go.Proofs.Sb
open Go.RowKit _root_.Sb
theorem TbR.lens {M dp : Nat} {S : Nat → Prop} {w : World} {c d q : Pl3} {t : Tb} (h : TbR M dp S w c d q t) : ∀ x ∈ t.cols, x.space.length ≤ M ∧ x.table.length ≤ M ∧ x.name.length ≤ M := by
  intro x hx
  obtain ⟨v, A, n, k, A2, n2, k2, _, h1, h2, h3, _⟩ := h.cl.mem x hx
  exact ⟨h1, h2, h3⟩
end Go.Proofs.Sb
