/- Plain mathematics of types of values (layer 4): their texts, how few, whether they are as they may be; no program in sight. No conditions. -/
import Derived.Test.YtdgmkmadlnmhbaaPlano
set_option linter.unusedVariables false
set_option linter.unusedSimpArgs false
namespace Sb

def sepB : B := [44, 32]
/-- texts one behind the other, parted by a comma and a space -/
def joinB : List B → B
  | [] => []
  | x :: l => x ++ l.flatMap fun y => sepB ++ y
theorem joinB_snoc (l : List B) (x : B) (h : l ≠ []) : joinB (l ++ [x]) = joinB l ++ sepB ++ x := by
  cases l with
  | nil => exact absurd rfl h
  | cons y l => simp [joinB, List.flatMap_append]
theorem joinB_take {l : List B} {k : Nat} {x : B} (hx : l[k]? = some x) : joinB (l.take (k + 1)) = joinB (l.take k) ++ ((if 0 < k then sepB else []) ++ x) := by
  obtain ⟨hk, rfl⟩ := List.getElem?_eq_some_iff.1 hx
  rw [List.take_succ_eq_append_getElem hk]
  by_cases h : 0 < k
  · rw [if_pos h, joinB_snoc _ _ (by intro e; have := congrArg List.length e; rw [List.length_take, List.length_nil] at this; omega), List.append_assoc]
  · have : k = 0 := by omega
    subst this
    simp [joinB]
def wList : B := [108, 105, 115, 116]
def wMap : B := [109, 97, 112]
def wSet : B := [115, 101, 116]
def wTuple : B := [116, 117, 112, 108, 101]
/-- a type's text -/
def tellD : Nat → Opt → B
  | 0, _ => []
  | d + 1, o =>
    if o.id = 0 then [39] ++ o.name ++ [39] else if o.id = 48 then o.space ++ [46] ++ o.name
    else if o.id = 32 then wList ++ [60] ++ joinB (o.kids.map (tellD d)) ++ [62]
    else if o.id = 33 then wMap ++ [60] ++ joinB (o.kids.map (tellD d)) ++ [62]
    else if o.id = 34 then wSet ++ [60] ++ joinB (o.kids.map (tellD d)) ++ [62]
    else if o.id = 49 then wTuple ++ [60] ++ joinB (o.kids.map (tellD d)) ++ [62]
    else nameB o.id
def mayD : Nat → Opt → Bool
  | 0, _ => false
  | d + 1, o => ownO o && o.kids.all (mayD d)
/-- a type's text, or an error's number -/
def textW (d : Nat) (o : Opt) : Wr := if 20 < depthD d o then .error 13 else if mayD d o = false then .error 1 else .ok (tellD d o)
/-- a type's bytes, or an error's number -/
def putW (d : Nat) (o : Opt) : Wr := if 20 < depthD d o then .error 13 else putD d o
def capD (M : Nat) : Nat → Opt → Prop
  | 0, _ => True
  | d + 1, o => o.space.length ≤ M ∧ o.name.length ≤ M ∧ ∀ k ∈ o.kids, capD M d k
theorem nameB_len (id : Nat) : (nameB id).length ≤ 9 := by
  by_cases h : id < 21
  · have : ∀ i : Fin 21, (nameB i).length ≤ 9 := by decide +kernel
    exact this ⟨id, h⟩
  · unfold nameB
    rw [List.getElem?_eq_none (by simp [plainNames]; omega)]
    simp
theorem joinB_len {M : Nat} {g : Opt → B} {h : Opt → Nat} : ∀ l : List Opt, (∀ k ∈ l, (g k).length + 2 ≤ h k * M) → (joinB (l.map g)).length ≤ (l.map h).sum * M
  | [], _ => by simp [joinB]
  | x :: l, hl => by
    have h1 := hl x (by simp)
    have h2 : ∀ l : List Opt, (∀ k ∈ l, (g k).length + 2 ≤ h k * M) → ((l.map g).flatMap fun y => sepB ++ y).length ≤ (l.map h).sum * M := by
      intro l
      induction l with
      | nil => simp
      | cons y l ih =>
        intro hl
        have h1 := hl y (by simp)
        have h2 := ih fun k hk => hl k (by simp [hk])
        simp only [List.map_cons, List.flatMap_cons, List.sum_cons, List.length_append, Nat.add_mul, sepB, List.length_cons, List.length_nil] at h2 ⊢
        omega
    have h3 := h2 l fun k hk => hl k (by simp [hk])
    simp only [List.map_cons, joinB, List.sum_cons, List.length_append, Nat.add_mul]
    omega
theorem tellD_len (M : Nat) : ∀ (d : Nat) (o : Opt), capD M d o → (tellD d o).length + 2 ≤ nD d o * (2 * M + 30)
  | 0, o, _ => by simp [tellD, nD]
  | d + 1, o, h => by
    have h1 := h.1
    have h2 := h.2.1
    have hj := joinB_len (M := 2 * M + 30) (g := tellD d) (h := nD d) o.kids fun k hk => tellD_len M d k (h.2.2 k hk)
    have hn := nameB_len o.id
    have e : nD (d + 1) o * (2 * M + 30) = 2 * M + 30 + (o.kids.map (nD d)).sum * (2 * M + 30) := by simp only [nD]; rw [Nat.add_mul]; omega
    rw [e]
    simp only [tellD]
    generalize joinB (o.kids.map (tellD d)) = j at hj
    generalize (o.kids.map (nD d)).sum * (2 * M + 30) = q at hj
    split
    · simp; omega
    · split
      · simp; omega
      · split
        · simp [wList]; omega
        · split
          · simp [wMap]; omega
          · split
            · simp [wSet]; omega
            · split
              · simp [wTuple]; omega
              · omega
theorem capD.mono {M M' : Nat} (hM : M ≤ M') : ∀ {d : Nat} {o : Opt}, capD M d o → capD M' d o
  | 0, _, _ => trivial
  | d + 1, o, h => ⟨Nat.le_trans h.1 hM, Nat.le_trans h.2.1 hM, fun k hk => capD.mono hM (h.2.2 k hk)⟩
/-- how many types, as the law reckons it -/
def sizeD : Nat → Opt → Nat
  | 0, _ => 1
  | d + 1, o => o.kids.foldl (fun n k => if n < 1000 then n + sizeD d k else n) 1
def fewD : Nat → Opt → Nat → Bool
  | 0, _, _ => false
  | d + 1, o, deep => decide (o.kids.length ≤ 10 ∧ o.names.length ≤ 20 ∧ deep ≤ 25) && (o.kids.all fun k => fewD d k (deep + 1)) && decide ((o.kids.map (sizeD d)).sum < 200)
theorem sum_le_of {α : Type} {g h : α → Nat} : ∀ {l : List α}, (∀ x ∈ l, g x = h x) → (l.map g).sum = (l.map h).sum
  | [], _ => rfl
  | x :: l, hl => by
    have h1 := hl x (by simp)
    have h2 := sum_le_of (l := l) fun y hy => hl y (List.mem_cons_of_mem _ hy)
    simp only [List.map_cons, List.sum_cons]
    rw [h1, h2]
theorem fold_size {g : Opt → Nat} : ∀ (l : List Opt) (a : Nat), a + (l.map g).sum ≤ 200 → l.foldl (fun n k => if n < 1000 then n + g k else n) a = a + (l.map g).sum
  | [], a, _ => by simp
  | x :: l, a, h => by
    simp only [List.map_cons, List.sum_cons] at h
    simp only [List.foldl_cons, List.map_cons, List.sum_cons]
    rw [if_pos (by omega), fold_size l (a + g x) (by omega)]
    omega
theorem few_size : ∀ {d : Nat} {o : Opt} {deep : Nat}, fewD d o deep = true → sizeD d o = nD d o ∧ nD d o ≤ 200
  | 0, _, _, h => by cases h
  | d + 1, o, deep, h => by
    simp only [fewD, Bool.and_eq_true, List.all_eq_true, decide_eq_true_eq] at h
    obtain ⟨⟨_, h2⟩, h3⟩ := h
    have h4 := sum_le_of (l := o.kids) (g := sizeD d) (h := nD d) fun k hk => (few_size (h2 k hk)).1
    simp only [sizeD, nD]
    rw [fold_size o.kids 1 (by omega), h4]
    omega
theorem few_kid {d : Nat} {o : Opt} {deep : Nat} (h : fewD (d + 1) o deep = true) {k : Opt} (hk : k ∈ o.kids) : fewD d k (deep + 1) = true := by
  simp only [fewD, Bool.and_eq_true, List.all_eq_true] at h
  exact h.1.2 k hk
end Sb
