/- Plain mathematics of lists and maps in frames; no program in sight. No conditions. -/
import Derived.Test.YtfeeeighafflnaaGreatPlain
set_option linter.unusedVariables false
set_option linter.unusedSimpArgs false
namespace Sb

/-- parts one behind the other -/
def putsM {α : Type} (f : α → Wr) : List α → Wr
  | [] => .ok []
  | x :: l => match f x with
    | .error e => .error e
    | .ok b => match putsM f l with
      | .error e => .error e
      | .ok r => .ok (b ++ r)
def putL {α : Type} (f : α → Wr) (l : List α) : Wr := if 65535 < l.length then .error 12 else match putsM f l with
  | .error e => .error e
  | .ok r => .ok (enc 2 l.length ++ r)
/-- so many parts -/
def getsM {α : Type} (f : B → Res α) : Nat → B → Res (List α)
  | 0, b => .ok ([], b)
  | n + 1, b => match f b with
    | .error e => .error e
    | .ok (x, r) => match getsM f n r with
      | .error e => .error e
      | .ok (l, r2) => .ok (x :: l, r2)
def getL {α : Type} (f : B → Res α) (b : B) : Res (List α) := match getN 2 b with
  | .error e => .error e
  | .ok (n, r) => getsM f n r
/-- two parts one behind the other; the first one's error is told first -/
def bothW (k v : Wr) : Wr := match k with
  | .error e => .error e
  | .ok a => match v with
    | .error e => .error e
    | .ok b => .ok (a ++ b)
def bothR {α β : Type} (f : B → Res α) (g : B → Res β) (b : B) : Res (α × β) := match f b with
  | .error e => .error e
  | .ok (x, r) => match g r with
    | .error e => .error e
    | .ok (y, r2) => .ok ((x, y), r2)
def texts (l : List B) : Wr := putL text l
def getTexts (b : B) : Res (List B) := getL getText b
def pairW (p : B × B) : Wr := bothW (text p.1) (text p.2)
def pairR (b : B) : Res (B × B) := bothR getText getText b
def multiW (p : B × List B) : Wr := bothW (text p.1) (texts p.2)
def multiR (b : B) : Res (B × List B) := bothR getText getTexts b
def entryW (p : B × Val) : Wr := bothW (text p.1) (value p.2)
def entryR (b : B) : Res (B × Val) := bothR getText getValue b

section
variable {α : Type} {f : α → Wr}
theorem putsM_app : ∀ {l : List α} {pre : B} {x : α} {b : B}, putsM f l = .ok pre → f x = .ok b → putsM f (l ++ [x]) = .ok (pre ++ b)
  | [], pre, x, b, h, hx => by
    injection h with h
    subst h
    simp [putsM, hx]
  | y :: l, pre, x, b, h, hx => by
    simp only [putsM, List.cons_append] at h ⊢
    cases hy : f y with
    | error e => rw [hy] at h; cases h
    | ok c =>
      rw [hy] at h
      simp only at h ⊢
      cases hl : putsM f l with
      | error e => rw [hl] at h; cases h
      | ok r =>
        rw [hl] at h
        injection h with h
        subst h
        rw [putsM_app hl hx]
        simp
theorem putsM_err : ∀ {l : List α} {pre : B} {x : α} {e : Int} (l2 : List α), putsM f l = .ok pre → f x = .error e → putsM f (l ++ x :: l2) = .error e
  | [], pre, x, e, l2, h, hx => by simp [putsM, hx]
  | y :: l, pre, x, e, l2, h, hx => by
    simp only [putsM, List.cons_append] at h ⊢
    cases hy : f y with
    | error e => rw [hy] at h; cases h
    | ok c =>
      rw [hy] at h
      simp only at h ⊢
      cases hl : putsM f l with
      | error e => rw [hl] at h; cases h
      | ok r =>
        rw [putsM_err l2 hl hx]
theorem putsM_take {l : List α} {k : Nat} {pre : B} {x : α} {b : B} (h : putsM f (l.take k) = .ok pre) (hx : l[k]? = some x) (hb : f x = .ok b) : putsM f (l.take (k + 1)) = .ok (pre ++ b) := by
  obtain ⟨hk, rfl⟩ := List.getElem?_eq_some_iff.1 hx
  rw [List.take_succ_eq_append_getElem hk]
  exact putsM_app h hb
theorem putsM_stop {l : List α} {k : Nat} {pre : B} {x : α} {e : Int} (h : putsM f (l.take k) = .ok pre) (hx : l[k]? = some x) (hb : f x = .error e) : putsM f l = .error e := by
  obtain ⟨hk, rfl⟩ := List.getElem?_eq_some_iff.1 hx
  have := putsM_err (l.drop (k + 1)) h hb
  rwa [← List.drop_eq_getElem_cons hk, List.take_append_drop] at this
theorem putsM_len {M : Nat} : ∀ {l : List α} {r : B}, (∀ x ∈ l, ∀ b, f x = .ok b → b.length ≤ M) → putsM f l = .ok r → r.length ≤ l.length * M
  | [], r, _, h => by injection h with h; subst h; simp
  | x :: l, r, hM, h => by
    simp only [putsM] at h
    cases hx : f x with
    | error e => rw [hx] at h; cases h
    | ok b =>
      rw [hx] at h
      simp only at h
      cases hl : putsM f l with
      | error e => rw [hl] at h; cases h
      | ok r2 =>
        rw [hl] at h
        injection h with h
        subst h
        have h1 := hM x (by simp) b hx
        have h2 := putsM_len (fun y hy => hM y (by simp [hy])) hl
        rw [List.length_append, List.length_cons, Nat.add_mul]
        omega
theorem putL_len {M : Nat} {l : List α} {r : B} (hM : ∀ x ∈ l, ∀ b, f x = .ok b → b.length ≤ M) (h : putL f l = .ok r) : l.length ≤ 65535 ∧ r.length ≤ 2 + l.length * M := by
  unfold putL at h
  split at h
  · cases h
  · rename_i hl
    cases hp : putsM f l with
    | error e => rw [hp] at h; cases h
    | ok q =>
      rw [hp] at h
      injection h with h
      subst h
      have := putsM_len hM hp
      rw [List.length_append, enc_length]
      omega
theorem text_len {s b : B} (h : text s = .ok b) : b.length ≤ 65537 ∧ s.length ≤ 65535 ∧ b = enc 2 s.length ++ s := by
  unfold text at h
  split at h
  · cases h
  · injection h with h
    subst h
    exact ⟨by rw [List.length_append, enc_length]; omega, by omega, rfl⟩
theorem texts_len {l : List B} {b : B} (h : texts l = .ok b) : b.length ≤ 2 + l.length * 65537 ∧ l.length ≤ 65535 := by
  have := putL_len (M := 65537) (fun x _ b hb => (text_len hb).1) h
  omega
theorem bothW_ok {k v : Wr} {r : B} (h : bothW k v = .ok r) : ∃ a b, k = .ok a ∧ v = .ok b ∧ r = a ++ b := by
  cases k with
  | error e => cases h
  | ok a =>
    cases v with
    | error e => cases h
    | ok b => injection h with h; exact ⟨a, b, rfl, rfl, h.symm⟩
end
section
variable {α : Type} {f : B → Res α}
theorem getsM_snoc : ∀ {k : Nat} {b : B} {xs : List α} {cur : B} {x : α} {r : B}, getsM f k b = .ok (xs, cur) → f cur = .ok (x, r) → getsM f (k + 1) b = .ok (xs ++ [x], r)
  | 0, b, xs, cur, x, r, h, hx => by
    injection h with h
    injection h with h1 h2
    subst h1 h2
    simp [getsM, hx]
  | k + 1, b, xs, cur, x, r, h, hx => by
    rw [getsM] at h ⊢
    cases hf : f b with
    | error e => rw [hf] at h; cases h
    | ok p =>
      obtain ⟨y, q⟩ := p
      rw [hf] at h
      simp only at h ⊢
      cases hg : getsM f k q with
      | error e => rw [hg] at h; cases h
      | ok p2 =>
        obtain ⟨l, q2⟩ := p2
        rw [hg] at h
        injection h with h
        injection h with h1 h2
        subst h1 h2
        rw [getsM_snoc hg hx]
        rfl
theorem getsM_stop : ∀ {k n : Nat} {b : B} {xs : List α} {cur : B} {e : Int}, k < n → getsM f k b = .ok (xs, cur) → f cur = .error e → getsM f n b = .error e
  | 0, 0, _, _, _, _, hk, _, _ => absurd hk (by omega)
  | 0, n + 1, b, xs, cur, e, _, h, hx => by
    injection h with h
    injection h with h1 h2
    subst h1 h2
    simp [getsM, hx]
  | k + 1, 0, _, _, _, _, hk, _, _ => absurd hk (by omega)
  | k + 1, n + 1, b, xs, cur, e, hk, h, hx => by
    rw [getsM] at h ⊢
    cases hf : f b with
    | error e => rw [hf] at h; cases h
    | ok p =>
      obtain ⟨y, q⟩ := p
      rw [hf] at h
      simp only at h ⊢
      cases hg : getsM f k q with
      | error e => rw [hg] at h; cases h
      | ok p2 =>
        obtain ⟨l, q2⟩ := p2
        rw [hg] at h
        injection h with h
        injection h with h1 h2
        subst h1 h2
        rw [getsM_stop (by omega) hg hx]
theorem getsM_len : ∀ {k : Nat} {b : B} {xs : List α} {cur : B}, (∀ b x r, f b = .ok (x, r) → r.length ≤ b.length) → getsM f k b = .ok (xs, cur) → xs.length = k ∧ cur.length ≤ b.length
  | 0, b, xs, cur, _, h => by
    injection h with h
    injection h with h1 h2
    subst h1 h2
    simp
  | k + 1, b, xs, cur, hf, h => by
    rw [getsM] at h
    cases h1 : f b with
    | error e => rw [h1] at h; cases h
    | ok p =>
      obtain ⟨y, q⟩ := p
      rw [h1] at h
      simp only at h
      cases hg : getsM f k q with
      | error e => rw [hg] at h; cases h
      | ok p2 =>
        obtain ⟨l, q2⟩ := p2
        rw [hg] at h
        injection h with h
        injection h with e1 e2
        subst e1 e2
        have a := getsM_len hf hg
        have b := hf _ _ _ h1
        simp
        omega
theorem getText_ok {b x r : B} (h : getText b = .ok (x, r)) : x.length ≤ 65535 ∧ r.length + x.length + 2 = b.length ∧ b = enc 2 x.length ++ (x ++ r) := by
  unfold getText at h
  cases hg : getN 2 b with
  | error e => rw [hg] at h; cases h
  | ok p =>
    obtain ⟨n, q⟩ := p
    rw [hg] at h
    simp only at h
    obtain ⟨h1, h2, h3, h4⟩ := getN_ok hg
    obtain ⟨h5, h6, h7⟩ := takeN_ok h
    have hx : x.length = n := by rw [h6, List.length_take]; omega
    have hr : r.length + n = q.length := by rw [h7, List.length_drop]; omega
    have hq : q.length + 2 = b.length := by rw [h3, List.length_drop]; omega
    refine ⟨by omega, by omega, ?_⟩
    have e2 := enc_be (b.take 2)
    rw [List.length_take, Nat.min_eq_left h1, ← h2] at e2
    rw [hx, e2, h6, h7, List.take_append_drop, h3, List.take_append_drop]
theorem getL_len {b : B} {xs : List α} {r : B} (hf : ∀ b x r, f b = .ok (x, r) → r.length ≤ b.length) (h : getL f b = .ok (xs, r)) : xs.length ≤ 65535 ∧ r.length ≤ b.length := by
  unfold getL at h
  cases hg : getN 2 b with
  | error e => rw [hg] at h; cases h
  | ok p =>
    obtain ⟨n, q⟩ := p
    rw [hg] at h
    obtain ⟨h1, h2, h3, h4⟩ := getN_ok hg
    have := getsM_len hf h
    have hq : q.length + 2 = b.length := by rw [h3, List.length_drop]; omega
    omega
end
theorem gt_ne {b : B} {e : Int} (h : getText b = .error e) : e ≠ 0 := by
  unfold getText at h
  cases hg : getN 2 b with
  | error e' => rw [hg] at h; injection h with h; have := getN_err hg; omega
  | ok p => obtain ⟨n, r⟩ := p; rw [hg] at h; have := takeN_err h; omega
theorem text_ne {b : B} {e : Int} (h : text b = .error e) : e ≠ 0 := by
  unfold text at h
  split at h
  · injection h with h; omega
  · cases h
theorem putL_ne {α : Type} {f : α → Wr} {l : List α} (hf : ∀ x e, f x = .error e → e ≠ 0) {e : Int} (h : putL f l = .error e) : e ≠ 0 := by
  have hm : ∀ (l : List α) (e : Int), putsM f l = .error e → e ≠ 0 := by
    intro l
    induction l with
    | nil => intro e h; cases h
    | cons x l ih =>
      intro e h
      simp only [putsM] at h
      cases hx : f x with
      | error e2 => rw [hx] at h; injection h with h; rw [← h]; exact hf x e2 hx
      | ok b =>
        rw [hx] at h
        simp only at h
        cases hl : putsM f l with
        | error e2 => rw [hl] at h; injection h with h; rw [← h]; exact ih e2 hl
        | ok r => rw [hl] at h; cases h
  unfold putL at h
  split at h
  · injection h with h; omega
  · cases hp : putsM f l with
    | error e2 => rw [hp] at h; injection h with h; rw [← h]; exact hm l e2 hp
    | ok q => rw [hp] at h; cases h
theorem texts_ne {l : List B} {e : Int} (h : texts l = .error e) : e ≠ 0 := putL_ne (fun _ _ h => text_ne h) h
theorem value_ne {v : Val} {e : Int} (h : value v = .error e) : e ≠ 0 := by
  unfold value at h
  split at h
  · cases h
  · split at h
    · cases h
    · split at h
      · cases h
      · injection h with h; omega
theorem bothW_ne {k v : Wr} (hk : ∀ e, k = .error e → e ≠ 0) (hv : ∀ e, v = .error e → e ≠ 0) {e : Int} (h : bothW k v = .error e) : e ≠ 0 := by
  cases k with
  | error e2 => injection h with h; rw [← h]; exact hk e2 rfl
  | ok a =>
    cases v with
    | error e2 => injection h with h; rw [← h]; exact hv e2 rfl
    | ok b => cases h
theorem pairW_ne {p : B × B} {e : Int} (h : pairW p = .error e) : e ≠ 0 := bothW_ne (fun _ => text_ne) (fun _ => text_ne) h
theorem multiW_ne {p : B × List B} {e : Int} (h : multiW p = .error e) : e ≠ 0 := bothW_ne (fun _ => text_ne) (fun _ => texts_ne) h
theorem entryW_ne {p : B × Val} {e : Int} (h : entryW p = .error e) : e ≠ 0 := bothW_ne (fun _ => text_ne) (fun _ => value_ne) h
theorem pairW_len {p : B × B} {b : B} (h : pairW p = .ok b) : b.length ≤ 131074 := by
  obtain ⟨x, y, hx, hy, rfl⟩ := bothW_ok h
  have := (text_len hx).1
  have := (text_len hy).1
  rw [List.length_append]
  omega
theorem multiW_len {p : B × List B} {b : B} (h : multiW p = .ok b) : b.length ≤ 65539 + p.2.length * 65537 ∧ p.2.length ≤ 65535 := by
  obtain ⟨x, y, hx, hy, rfl⟩ := bothW_ok h
  have := (text_len hx).1
  have := texts_len hy
  rw [List.length_append]
  omega
theorem value_len {v : Val} {b : B} (h : value v = .ok b) : b.length ≤ 4 + v.bytes.length := by
  unfold value at h
  split at h
  · injection h with h; subst h; simp
  · split at h
    · injection h with h; subst h; simp
    · split at h
      · injection h with h; subst h; unfold long; rw [List.length_append, enc_length]; omega
      · cases h
theorem entryW_len {p : B × Val} {b : B} (h : entryW p = .ok b) : b.length ≤ 65541 + p.2.bytes.length := by
  obtain ⟨x, y, hx, hy, rfl⟩ := bothW_ok h
  have := (text_len hx).1
  have := value_len hy
  rw [List.length_append]
  omega
end Sb
