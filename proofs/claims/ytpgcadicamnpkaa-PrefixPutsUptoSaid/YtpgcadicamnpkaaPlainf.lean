/- Plain mathematics of what stands ahead of a body: no program in sight. No conditions. -/
import Derived.Test.YtpgcadicamnpkaaPlaine
import Derived.Test.YtpgcadicamnpkaaPlaind
set_option linter.unusedVariables false
set_option linter.unusedSimpArgs false
namespace Sb
/-- what stands ahead of a body: a tracing number, warnings, a payload -/
structure Pre where
  tracing : B
  warnings : List B
  payload : List (B × Val)
def Pre.none : Pre := ⟨[], [], []⟩
/-- one part, read -/
def partR (k : Nat) (p : Pre) (b : B) : Res Pre :=
  if k = 0 then (match takeN 16 b with
    | .error e => .error e
    | .ok (x, r) => .ok ({ p with tracing := x }, r))
  else if k = 1 then (match getTexts b with
    | .error e => .error e
    | .ok (x, r) => .ok ({ p with warnings := x }, r))
  else (match getL entryR b with
    | .error e => .error e
    | .ok (x, r) => .ok ({ p with payload := x }, r))
/-- is a flag set? -/
def flagB (f g : Nat) : Bool := f / g % 2 == 1
/-- parts whose flags are there, one behind the other -/
def readR (f : Nat) : List (Nat × Nat) → Pre → B → Res Pre
  | [], p, b => .ok (p, b)
  | (g, k) :: l, p, b => if flagB f g then (match partR k p b with
      | .error e => .error e
      | .ok (q, r) => readR f l q r) else readR f l p b
def respParts : List (Nat × Nat) := [(2, 0), (8, 1), (4, 2)]
def reqParts : List (Nat × Nat) := [(4, 2)]
theorem readR_snoc (f g k : Nat) : ∀ (l : List (Nat × Nat)) (p q : Pre) (b r : B), readR f l p b = .ok (q, r) → readR f (l ++ [(g, k)]) p b = if flagB f g then partR k q r else .ok (q, r)
  | [], p, q, b, r, h => by
    injection h with h
    injection h with h1 h2
    subst h1 h2
    simp only [List.nil_append, readR]
    split
    · cases partR k p b with
      | error e => rfl
      | ok x => rfl
    · rfl
  | (g', k') :: l, p, q, b, r, h => by
    simp only [List.cons_append, readR] at h ⊢
    split
    · rename_i hf
      rw [if_pos hf] at h
      cases h1 : partR k' p b with
      | error e => rw [h1] at h; cases h
      | ok x =>
        obtain ⟨x, r1⟩ := x
        rw [h1] at h
        exact readR_snoc f g k l x q r1 r h
    · rename_i hf
      rw [if_neg hf] at h
      exact readR_snoc f g k l p q b r h
theorem readR_app_err (f : Nat) (l2 : List (Nat × Nat)) : ∀ (l : List (Nat × Nat)) (p : Pre) (b : B) (e : Int), readR f l p b = .error e → readR f (l ++ l2) p b = .error e
  | [], p, b, e, h => by cases h
  | (g', k') :: l, p, b, e, h => by
    simp only [List.cons_append, readR] at h ⊢
    split
    · rename_i hf
      rw [if_pos hf] at h
      cases h1 : partR k' p b with
      | error e' => rw [h1] at h; exact h
      | ok x => rw [h1] at h; exact readR_app_err f l2 l x.1 x.2 e h
    · rename_i hf
      rw [if_neg hf] at h
      exact readR_app_err f l2 l p b e h
theorem partR_len {k : Nat} {p q : Pre} {b r : B} (h : partR k p b = .ok (q, r)) (hg : ∀ b x r, getTexts b = .ok (x, r) → r.length ≤ b.length) (he : ∀ b x r, getL entryR b = .ok (x, r) → r.length ≤ b.length) : r.length ≤ b.length := by
  unfold partR at h
  split at h
  · cases h1 : takeN 16 b with
    | error e => rw [h1] at h; cases h
    | ok x =>
      obtain ⟨x, r1⟩ := x
      rw [h1] at h
      injection h with h
      injection h with _ h2
      subst h2
      rw [(takeN_ok h1).2.2, List.length_drop]
      omega
  · split at h
    · cases h1 : getTexts b with
      | error e => rw [h1] at h; cases h
      | ok x =>
        obtain ⟨x, r1⟩ := x
        rw [h1] at h
        injection h with h
        injection h with _ h2
        subst h2
        exact hg _ _ _ h1
    · cases h1 : getL entryR b with
      | error e => rw [h1] at h; cases h
      | ok x =>
        obtain ⟨x, r1⟩ := x
        rw [h1] at h
        injection h with h
        injection h with _ h2
        subst h2
        exact he _ _ _ h1
theorem rrest_rmap {α β : Type} (h : α → β) (r : Res α) : rrest (rmap h r) = rrest r := by cases r <;> rfl
theorem rerr_rmap {α β : Type} (h : α → β) (r : Res α) : rerr (rmap h r) = rerr r := by cases r <;> rfl
end Sb
