/- Plain mathematics of the frames' parts: bytes and numbers; no program in sight. No conditions. -/

set_option linter.unusedVariables false
set_option linter.unusedSimpArgs false
namespace Sb

abbrev B := List UInt8

/-- the number that bytes make, the highest first -/
def be (l : B) : Nat := l.foldl (fun x b => x * 256 + b.toNat) 0
/-- byte j of a number in n bytes -/
def encAt (n x j : Nat) : UInt8 := UInt8.ofNat (x / 256 ^ (n - 1 - j))
/-- a number in n bytes -/
def enc (n x : Nat) : B := (List.range n).map (encAt n x)

theorem enc_length (n x : Nat) : (enc n x).length = n := by simp [enc]

theorem be_snoc (l : B) (b : UInt8) : be (l ++ [b]) = be l * 256 + b.toNat := by simp [be, List.foldl_append]
theorem be_lt_aux (l : B) : ∀ a, l.foldl (fun x b => x * 256 + b.toNat) a + 1 ≤ (a + 1) * 256 ^ l.length := by
  induction l with
  | nil => intro a; simp
  | cons b l ih =>
    intro a
    have h := ih (a * 256 + b.toNat)
    have hb := b.toNat_lt
    simp only [List.foldl_cons, List.length_cons, Nat.pow_succ]
    refine Nat.le_trans h ?_
    rw [Nat.mul_comm (256 ^ l.length) 256, ← Nat.mul_assoc]
    exact Nat.mul_le_mul_right _ (by omega)
theorem be_lt (l : B) : be l < 256 ^ l.length := by
  have := be_lt_aux l 0
  simp at this
  exact this
theorem be_take_succ (l : B) (k : Nat) (h : k < l.length) : be (l.take (k + 1)) = be (l.take k) * 256 + l[k].toNat := by
  rw [List.take_succ_eq_append_getElem h, be_snoc]

/-- what a reading gives: what is read and what is behind, or an error's number -/
abbrev Res (α : Type) := Except Int (α × B)
def rerr {α : Type} : Res α → Int | .ok _ => 0 | .error e => e
def rval {α : Type} (d : α) : Res α → α | .ok x => x.1 | .error _ => d
def rrest {α : Type} : Res α → B | .ok x => x.2 | .error _ => []
@[simp] theorem rerr_ok {α : Type} (x : α × B) : rerr (.ok x : Res α) = 0 := rfl
@[simp] theorem rerr_error {α : Type} (e : Int) : rerr (.error e : Res α) = e := rfl
@[simp] theorem rval_ok {α : Type} (d : α) (x : α × B) : rval d (.ok x : Res α) = x.1 := rfl
@[simp] theorem rval_error {α : Type} (d : α) (e : Int) : rval d (.error e : Res α) = d := rfl
@[simp] theorem rrest_ok {α : Type} (x : α × B) : rrest (.ok x : Res α) = x.2 := rfl
@[simp] theorem rrest_error {α : Type} (e : Int) : rrest (.error e : Res α) = [] := rfl
/-- what a writing gives: bytes, or an error's number -/
abbrev Wr := Except Int B
def werr : Wr → Int | .ok _ => 0 | .error e => e
def wval : Wr → B | .ok x => x | .error _ => []
@[simp] theorem werr_ok (x : B) : werr (.ok x) = 0 := rfl
@[simp] theorem werr_error (e : Int) : werr (.error e) = e := rfl
@[simp] theorem wval_ok (x : B) : wval (.ok x) = x := rfl
@[simp] theorem wval_error (e : Int) : wval (.error e) = [] := rfl

/-- the place behind what was read -/
def AtR {α : Type} (bs : B) (to : Nat) (r : Res α) : Prop := (∀ x, r = .ok x → to ≤ bs.length ∧ bs.drop to = x.2) ∧ (∀ e, r = .error e → to = 0)
theorem AtR.err {α : Type} {bs : B} {e : Int} : AtR (α := α) bs 0 (.error e) := ⟨fun _ h => (by cases h), fun _ _ => rfl⟩
theorem AtR.ok {α : Type} {bs : B} {q : Nat} {x : α × B} (h : q ≤ bs.length) (h2 : bs.drop q = x.2) : AtR bs q (.ok x) := ⟨fun y hy => by injection hy with hy; subst hy; exact ⟨h, h2⟩, fun _ h => (by cases h)⟩
theorem AtR.le {α : Type} {bs : B} {q : Nat} {x : α × B} (h : AtR bs q (.ok x)) : q ≤ bs.length := (h.1 x rfl).1
theorem AtR.drop {α : Type} {bs : B} {q : Nat} {x : α × B} (h : AtR bs q (.ok x)) : bs.drop q = x.2 := (h.1 x rfl).2
theorem AtR.zero {α : Type} {bs : B} {q : Nat} {e : Int} (h : AtR (α := α) bs q (.error e)) : q = 0 := h.2 e rfl

/-- a number of n bytes -/
def getN (n : Nat) (bs : B) : Res Nat := if bs.length < n then .error 10 else .ok (be (bs.take n), bs.drop n)
/-- so many bytes -/
def takeN (n : Nat) (bs : B) : Res B := if bs.length < n then .error 10 else .ok (bs.take n, bs.drop n)
/-- a number of n bytes, with its sign -/
def sgn (n x : Nat) : Int := if x < 256 ^ n / 2 then x else (x : Int) - ((256 ^ n : Nat) : Int)

theorem be_fold (l : B) : ∀ a, l.foldl (fun x b => x * 256 + b.toNat) a = a * 256 ^ l.length + be l := by
  induction l with
  | nil => intro a; simp [be]
  | cons b l ih =>
    intro a
    have h1 := ih (a * 256 + b.toNat)
    have h2 := ih (0 * 256 + b.toNat)
    unfold be at h1 h2 ⊢
    simp only [List.foldl_cons, List.length_cons] at h1 h2 ⊢
    rw [h1, h2, Nat.pow_succ, Nat.add_mul, Nat.mul_assoc, Nat.mul_comm 256]
    simp [Nat.add_assoc]
theorem be_cons (b : UInt8) (l : B) : be (b :: l) = b.toNat * 256 ^ l.length + be l := by
  have := be_fold l (0 * 256 + b.toNat)
  unfold be at this ⊢
  simpa using this
theorem enc_succ (n x : Nat) : enc (n + 1) x = enc n (x / 256) ++ [UInt8.ofNat x] := by
  apply List.ext_getElem
  · simp [enc]
  · intro j h1 h2
    simp [enc] at h1 h2
    by_cases h : j < n
    · rw [List.getElem_append_left (by simpa [enc] using h)]
      simp only [enc, List.getElem_map, List.getElem_range, encAt]
      have e : n + 1 - 1 - j = (n - 1 - j) + 1 := by omega
      rw [e, Nat.pow_succ, Nat.mul_comm, ← Nat.div_div_eq_div_mul]
    · have hj : j = n := by omega
      subst hj
      simp [enc, encAt]
theorem be_enc (n : Nat) : ∀ x, be (enc n x) = x % 256 ^ n := by
  induction n with
  | zero => intro x; simp [enc, be, Nat.mod_one]
  | succ n ih =>
    intro x
    have e : x % 256 ^ (n + 1) = x % 256 + 256 * (x / 256 % 256 ^ n) := by rw [Nat.pow_succ, Nat.mul_comm (256 ^ n) 256, Nat.mod_mul]
    rw [enc_succ, be_snoc, ih, UInt8.toNat_ofNat', e]
    omega
theorem enc_be (l : B) : enc l.length (be l) = l := by
  have key : ∀ n (l : B), l.length = n → enc n (be l) = l := by
    intro n
    induction n with
    | zero => intro l h; rw [List.eq_nil_of_length_eq_zero h]; rfl
    | succ n ih =>
      intro l h
      have hne : l ≠ [] := fun e => by rw [e] at h; simp at h
      have hl := (List.dropLast_concat_getLast hne)
      rw [← hl, be_snoc, enc_succ]
      have hb := (l.getLast hne).toNat_lt
      have e1 : (be l.dropLast * 256 + (l.getLast hne).toNat) / 256 = be l.dropLast := by omega
      rw [e1, ih l.dropLast (by rw [List.length_dropLast, h]; rfl)]
      congr 2
      apply UInt8.toNat.inj
      rw [UInt8.toNat_ofNat']
      omega
  exact key _ l rfl

/-- the number that bytes make, with its sign -/
def sbe (l : B) : Int := match l with
  | [] => 0
  | b :: m => (be (b :: m) : Int) - if 128 ≤ b.toNat then ((256 ^ (m.length + 1) : Nat) : Int) else 0
theorem sbe_one (b : UInt8) : sbe [b] = (b.toNat : Int) - if 128 ≤ b.toNat then 256 else 0 := by simp [sbe, be]
theorem sbe_snoc (l : B) (b : UInt8) (h : l ≠ []) : sbe (l ++ [b]) = sbe l * 256 + b.toNat := by
  cases l with
  | nil => exact absurd rfl h
  | cons a m =>
    simp only [sbe, List.cons_append]
    rw [← List.cons_append, be_snoc]
    by_cases h : 128 ≤ a.toNat
    · simp only [h, if_true, List.length_append, List.length_singleton]
      rw [Nat.pow_succ 256 (m.length + 1)]
      simp only [Int.natCast_add, Int.natCast_mul]
      omega
    · simp only [h, if_false]
      omega
theorem sbe_bound (l : B) (h : l ≠ []) : -((256 ^ l.length / 2 : Nat) : Int) ≤ sbe l ∧ sbe l < ((256 ^ l.length / 2 : Nat) : Int) := by
  cases l with
  | nil => exact absurd rfl h
  | cons a m =>
    have h1 := be_lt m
    have h2 := be_cons a m
    have h3 := a.toNat_lt
    have e : 256 ^ (m.length + 1) / 2 = 128 * 256 ^ m.length := by rw [Nat.pow_succ]; omega
    simp only [sbe, List.length_cons, e, h2]
    have e2 : 256 ^ (m.length + 1) = 256 * 256 ^ m.length := by rw [Nat.pow_succ, Nat.mul_comm]
    generalize 256 ^ m.length = q at *
    by_cases h : 128 ≤ a.toNat
    · simp only [h, if_true, e2]
      obtain ⟨d, hd⟩ : ∃ d, a.toNat = 128 + d := ⟨a.toNat - 128, by omega⟩
      have hdq : d * q + q ≤ 128 * q := by
        have : (d + 1) * q ≤ 128 * q := Nat.mul_le_mul_right _ (by omega)
        rwa [Nat.add_mul, Nat.one_mul] at this
      rw [hd, Nat.add_mul]
      generalize d * q = dq at *
      omega
    · simp only [h, if_false]
      have : (a.toNat + 1) * q ≤ 128 * q := Nat.mul_le_mul_right _ (by omega)
      rw [Nat.add_mul, Nat.one_mul] at this
      generalize a.toNat * q = aq at *
      omega
theorem sbe_enc (n x : Nat) (hn : 1 ≤ n) (hx : x < 256 ^ n) : sbe (enc n x) = sgn n x := by
  obtain ⟨k, rfl⟩ : ∃ k, n = k + 1 := ⟨n - 1, by omega⟩
  have hl := enc_length (k + 1) x
  have hb := be_enc (k + 1) x
  rw [Nat.mod_eq_of_lt hx] at hb
  cases h : enc (k + 1) x with
  | nil => rw [h] at hl; simp at hl
  | cons a m =>
    rw [h] at hl hb
    simp at hl
    have h1 := be_lt m
    have h2 := be_cons a m
    have h3 := a.toNat_lt
    rw [hl] at h1 h2
    have e2 : 256 ^ (k + 1) = 256 * 256 ^ k := by rw [Nat.pow_succ, Nat.mul_comm]
    simp only [sbe, sgn, hb, hl]
    have e : 256 ^ (k + 1) / 2 = 128 * 256 ^ k := by omega
    rw [e]
    generalize 256 ^ (k + 1) = q1 at *
    generalize 256 ^ k = q at *
    by_cases h : 128 ≤ a.toNat
    · have : 128 * q ≤ a.toNat * q := Nat.mul_le_mul_right _ h
      rw [if_pos h, if_neg (by omega)]
    · have : (a.toNat + 1) * q ≤ 128 * q := Nat.mul_le_mul_right _ (by omega)
      rw [Nat.add_mul, Nat.one_mul] at this
      rw [if_neg h, if_pos (by omega)]
      simp

/-! What frames are made of. -/
def text (s : B) : Wr := if s.length > 65535 then .error 12 else .ok (enc 2 s.length ++ s)
def getText (b : B) : Res B := match getN 2 b with
  | .error e => .error e
  | .ok (n, r) => takeN n r
def long (s : B) : B := enc 4 s.length ++ s
def getNum (b : B) : Res Int := match getN 4 b with
  | .error e => .error e
  | .ok (x, r) => .ok (sgn 4 x, r)
def getLong (b : B) : Res B := match getNum b with
  | .error e => .error e
  | .ok (n, r) => if n < 0 then .error 11 else takeN n.toNat r
/-- a value: its kind and its bytes -/
structure Val where
  kind : Int
  bytes : B
def Val.none : Val := ⟨0, []⟩
def value (v : Val) : Wr := if v.kind = 0 then .ok [255, 255, 255, 255] else if v.kind = 1 then .ok [255, 255, 255, 254] else if v.kind = 2 then .ok (long v.bytes) else .error 1
def getValue (b : B) : Res Val := match getNum b with
  | .error e => .error e
  | .ok (n, r) => if n = -1 then .ok (⟨0, []⟩, r) else if n = -2 then .ok (⟨1, []⟩, r) else if n < 0 then .error 11 else match takeN n.toNat r with
    | .error e => .error e
    | .ok (x, r2) => .ok (⟨2, x⟩, r2)
/-- an address: its bytes and its port -/
structure Adr where
  addr : B
  port : Nat
def Adr.none : Adr := ⟨[], 0⟩
def inet (a : Adr) : Wr := if a.addr.length = 4 ∨ a.addr.length = 16 then .ok (UInt8.ofNat a.addr.length :: a.addr ++ enc 4 a.port) else .error 1
def getInet (b : B) : Res Adr := match getN 1 b with
  | .error e => .error e
  | .ok (n, r) => if n = 4 ∨ n = 16 then (match takeN n r with
    | .error e => .error e
    | .ok (x, r2) => match getN 4 r2 with
      | .error e => .error e
      | .ok (p, r3) => .ok (⟨x, p⟩, r3)) else .error 11
def cons (c : Nat) : Wr := if c > 10 then .error 1 else .ok (enc 2 c)
def getCons (b : B) : Res Nat := match getN 2 b with
  | .error e => .error e
  | .ok (c, r) => if c > 10 then .error 11 else .ok (c, r)

theorem getN_err {n : Nat} {b : B} {e : Int} (h : getN n b = .error e) : e = 10 := by
  unfold getN at h; split at h
  · injection h with h; exact h.symm
  · cases h
theorem getN_ok {n : Nat} {b : B} {x : Nat} {r : B} (h : getN n b = .ok (x, r)) : n ≤ b.length ∧ x = be (b.take n) ∧ r = b.drop n ∧ x < 256 ^ n := by
  unfold getN at h; split at h
  · cases h
  · rename_i hl
    injection h with h
    injection h with h1 h2
    refine ⟨by omega, h1.symm, h2.symm, ?_⟩
    have := be_lt (b.take n)
    rw [List.length_take, Nat.min_eq_left (by omega), h1] at this
    exact this
theorem takeN_err {n : Nat} {b : B} {e : Int} (h : takeN n b = .error e) : e = 10 := by
  unfold takeN at h; split at h
  · injection h with h; exact h.symm
  · cases h
theorem takeN_ok {n : Nat} {b : B} {x : B} {r : B} (h : takeN n b = .ok (x, r)) : n ≤ b.length ∧ x = b.take n ∧ r = b.drop n := by
  unfold takeN at h; split at h
  · cases h
  · rename_i hl
    injection h with h
    injection h with h1 h2
    exact ⟨by omega, h1.symm, h2.symm⟩
theorem sgn4_bd (x : Nat) (h : x < 4294967296) : -2147483648 ≤ sgn 4 x ∧ sgn 4 x ≤ 2147483647 := by
  unfold sgn; simp only [Nat.reducePow, Nat.reduceDiv]; split <;> omega
theorem getNum_ok {b : B} {n : Int} {r : B} (h : getNum b = .ok (n, r)) : 4 ≤ b.length ∧ r = b.drop 4 ∧ -2147483648 ≤ n ∧ n ≤ 2147483647 ∧ n = sgn 4 (be (b.take 4)) := by
  unfold getNum at h
  cases hg : getN 4 b with
  | error e => rw [hg] at h; cases h
  | ok p =>
    obtain ⟨x, r'⟩ := p
    rw [hg] at h
    injection h with h
    injection h with h1 h2
    subst h1 h2
    obtain ⟨h3, h4, h5, h6⟩ := getN_ok hg
    exact ⟨h3, h5, (sgn4_bd x (by omega)).1, (sgn4_bd x (by omega)).2, by rw [h4]⟩
theorem getNum_err {b : B} {e : Int} (h : getNum b = .error e) : e = 10 := by
  unfold getNum at h
  cases hg : getN 4 b with
  | error e' => rw [hg] at h; injection h with h; subst h; exact getN_err hg
  | ok p => rw [hg] at h; cases h
end Sb

/- Plain mathematics of lists and maps in frames; no program in sight. No conditions. -/
namespace Sb

/-- parts one behind the other -/
def putsM {α : Type} (f : α → Wr) : List α → Wr
  | [] => .ok []
  | x :: l => match f x with
    | .error e => .error e
    | .ok b => match putsM f l with
      | .error e => .error e
      | .ok r => .ok (b ++ r)
def putL {α : Type} (f : α → Wr) (l : List α) : Wr := if 65535 < l.length then .error 12 else match putsM f l with
  | .error e => .error e
  | .ok r => .ok (enc 2 l.length ++ r)
/-- so many parts -/
def getsM {α : Type} (f : B → Res α) : Nat → B → Res (List α)
  | 0, b => .ok ([], b)
  | n + 1, b => match f b with
    | .error e => .error e
    | .ok (x, r) => match getsM f n r with
      | .error e => .error e
      | .ok (l, r2) => .ok (x :: l, r2)
def getL {α : Type} (f : B → Res α) (b : B) : Res (List α) := match getN 2 b with
  | .error e => .error e
  | .ok (n, r) => getsM f n r
/-- two parts one behind the other; the first one's error is told first -/
def bothW (k v : Wr) : Wr := match k with
  | .error e => .error e
  | .ok a => match v with
    | .error e => .error e
    | .ok b => .ok (a ++ b)
def bothR {α β : Type} (f : B → Res α) (g : B → Res β) (b : B) : Res (α × β) := match f b with
  | .error e => .error e
  | .ok (x, r) => match g r with
    | .error e => .error e
    | .ok (y, r2) => .ok ((x, y), r2)
def texts (l : List B) : Wr := putL text l
def getTexts (b : B) : Res (List B) := getL getText b
def pairW (p : B × B) : Wr := bothW (text p.1) (text p.2)
def pairR (b : B) : Res (B × B) := bothR getText getText b
def multiW (p : B × List B) : Wr := bothW (text p.1) (texts p.2)
def multiR (b : B) : Res (B × List B) := bothR getText getTexts b
def entryW (p : B × Val) : Wr := bothW (text p.1) (value p.2)
def entryR (b : B) : Res (B × Val) := bothR getText getValue b

section
variable {α : Type} {f : α → Wr}
theorem putsM_app : ∀ {l : List α} {pre : B} {x : α} {b : B}, putsM f l = .ok pre → f x = .ok b → putsM f (l ++ [x]) = .ok (pre ++ b)
  | [], pre, x, b, h, hx => by
    injection h with h
    subst h
    simp [putsM, hx]
  | y :: l, pre, x, b, h, hx => by
    simp only [putsM, List.cons_append] at h ⊢
    cases hy : f y with
    | error e => rw [hy] at h; cases h
    | ok c =>
      rw [hy] at h
      simp only at h ⊢
      cases hl : putsM f l with
      | error e => rw [hl] at h; cases h
      | ok r =>
        rw [hl] at h
        injection h with h
        subst h
        rw [putsM_app hl hx]
        simp
theorem putsM_err : ∀ {l : List α} {pre : B} {x : α} {e : Int} (l2 : List α), putsM f l = .ok pre → f x = .error e → putsM f (l ++ x :: l2) = .error e
  | [], pre, x, e, l2, h, hx => by simp [putsM, hx]
  | y :: l, pre, x, e, l2, h, hx => by
    simp only [putsM, List.cons_append] at h ⊢
    cases hy : f y with
    | error e => rw [hy] at h; cases h
    | ok c =>
      rw [hy] at h
      simp only at h ⊢
      cases hl : putsM f l with
      | error e => rw [hl] at h; cases h
      | ok r =>
        rw [putsM_err l2 hl hx]
theorem putsM_take {l : List α} {k : Nat} {pre : B} {x : α} {b : B} (h : putsM f (l.take k) = .ok pre) (hx : l[k]? = some x) (hb : f x = .ok b) : putsM f (l.take (k + 1)) = .ok (pre ++ b) := by
  obtain ⟨hk, rfl⟩ := List.getElem?_eq_some_iff.1 hx
  rw [List.take_succ_eq_append_getElem hk]
  exact putsM_app h hb
theorem putsM_stop {l : List α} {k : Nat} {pre : B} {x : α} {e : Int} (h : putsM f (l.take k) = .ok pre) (hx : l[k]? = some x) (hb : f x = .error e) : putsM f l = .error e := by
  obtain ⟨hk, rfl⟩ := List.getElem?_eq_some_iff.1 hx
  have := putsM_err (l.drop (k + 1)) h hb
  rwa [← List.drop_eq_getElem_cons hk, List.take_append_drop] at this
theorem putsM_len {M : Nat} : ∀ {l : List α} {r : B}, (∀ x ∈ l, ∀ b, f x = .ok b → b.length ≤ M) → putsM f l = .ok r → r.length ≤ l.length * M
  | [], r, _, h => by injection h with h; subst h; simp
  | x :: l, r, hM, h => by
    simp only [putsM] at h
    cases hx : f x with
    | error e => rw [hx] at h; cases h
    | ok b =>
      rw [hx] at h
      simp only at h
      cases hl : putsM f l with
      | error e => rw [hl] at h; cases h
      | ok r2 =>
        rw [hl] at h
        injection h with h
        subst h
        have h1 := hM x (by simp) b hx
        have h2 := putsM_len (fun y hy => hM y (by simp [hy])) hl
        rw [List.length_append, List.length_cons, Nat.add_mul]
        omega
theorem putL_len {M : Nat} {l : List α} {r : B} (hM : ∀ x ∈ l, ∀ b, f x = .ok b → b.length ≤ M) (h : putL f l = .ok r) : l.length ≤ 65535 ∧ r.length ≤ 2 + l.length * M := by
  unfold putL at h
  split at h
  · cases h
  · rename_i hl
    cases hp : putsM f l with
    | error e => rw [hp] at h; cases h
    | ok q =>
      rw [hp] at h
      injection h with h
      subst h
      have := putsM_len hM hp
      rw [List.length_append, enc_length]
      omega
theorem text_len {s b : B} (h : text s = .ok b) : b.length ≤ 65537 ∧ s.length ≤ 65535 ∧ b = enc 2 s.length ++ s := by
  unfold text at h
  split at h
  · cases h
  · injection h with h
    subst h
    exact ⟨by rw [List.length_append, enc_length]; omega, by omega, rfl⟩
theorem texts_len {l : List B} {b : B} (h : texts l = .ok b) : b.length ≤ 2 + l.length * 65537 ∧ l.length ≤ 65535 := by
  have := putL_len (M := 65537) (fun x _ b hb => (text_len hb).1) h
  omega
theorem bothW_ok {k v : Wr} {r : B} (h : bothW k v = .ok r) : ∃ a b, k = .ok a ∧ v = .ok b ∧ r = a ++ b := by
  cases k with
  | error e => cases h
  | ok a =>
    cases v with
    | error e => cases h
    | ok b => injection h with h; exact ⟨a, b, rfl, rfl, h.symm⟩
end
section
variable {α : Type} {f : B → Res α}
theorem getsM_snoc : ∀ {k : Nat} {b : B} {xs : List α} {cur : B} {x : α} {r : B}, getsM f k b = .ok (xs, cur) → f cur = .ok (x, r) → getsM f (k + 1) b = .ok (xs ++ [x], r)
  | 0, b, xs, cur, x, r, h, hx => by
    injection h with h
    injection h with h1 h2
    subst h1 h2
    simp [getsM, hx]
  | k + 1, b, xs, cur, x, r, h, hx => by
    rw [getsM] at h ⊢
    cases hf : f b with
    | error e => rw [hf] at h; cases h
    | ok p =>
      obtain ⟨y, q⟩ := p
      rw [hf] at h
      simp only at h ⊢
      cases hg : getsM f k q with
      | error e => rw [hg] at h; cases h
      | ok p2 =>
        obtain ⟨l, q2⟩ := p2
        rw [hg] at h
        injection h with h
        injection h with h1 h2
        subst h1 h2
        rw [getsM_snoc hg hx]
        rfl
theorem getsM_stop : ∀ {k n : Nat} {b : B} {xs : List α} {cur : B} {e : Int}, k < n → getsM f k b = .ok (xs, cur) → f cur = .error e → getsM f n b = .error e
  | 0, 0, _, _, _, _, hk, _, _ => absurd hk (by omega)
  | 0, n + 1, b, xs, cur, e, _, h, hx => by
    injection h with h
    injection h with h1 h2
    subst h1 h2
    simp [getsM, hx]
  | k + 1, 0, _, _, _, _, hk, _, _ => absurd hk (by omega)
  | k + 1, n + 1, b, xs, cur, e, hk, h, hx => by
    rw [getsM] at h ⊢
    cases hf : f b with
    | error e => rw [hf] at h; cases h
    | ok p =>
      obtain ⟨y, q⟩ := p
      rw [hf] at h
      simp only at h ⊢
      cases hg : getsM f k q with
      | error e => rw [hg] at h; cases h
      | ok p2 =>
        obtain ⟨l, q2⟩ := p2
        rw [hg] at h
        injection h with h
        injection h with h1 h2
        subst h1 h2
        rw [getsM_stop (by omega) hg hx]
theorem getsM_len : ∀ {k : Nat} {b : B} {xs : List α} {cur : B}, (∀ b x r, f b = .ok (x, r) → r.length ≤ b.length) → getsM f k b = .ok (xs, cur) → xs.length = k ∧ cur.length ≤ b.length
  | 0, b, xs, cur, _, h => by
    injection h with h
    injection h with h1 h2
    subst h1 h2
    simp
  | k + 1, b, xs, cur, hf, h => by
    rw [getsM] at h
    cases h1 : f b with
    | error e => rw [h1] at h; cases h
    | ok p =>
      obtain ⟨y, q⟩ := p
      rw [h1] at h
      simp only at h
      cases hg : getsM f k q with
      | error e => rw [hg] at h; cases h
      | ok p2 =>
        obtain ⟨l, q2⟩ := p2
        rw [hg] at h
        injection h with h
        injection h with e1 e2
        subst e1 e2
        have a := getsM_len hf hg
        have b := hf _ _ _ h1
        simp
        omega
theorem getText_ok {b x r : B} (h : getText b = .ok (x, r)) : x.length ≤ 65535 ∧ r.length + x.length + 2 = b.length ∧ b = enc 2 x.length ++ (x ++ r) := by
  unfold getText at h
  cases hg : getN 2 b with
  | error e => rw [hg] at h; cases h
  | ok p =>
    obtain ⟨n, q⟩ := p
    rw [hg] at h
    simp only at h
    obtain ⟨h1, h2, h3, h4⟩ := getN_ok hg
    obtain ⟨h5, h6, h7⟩ := takeN_ok h
    have hx : x.length = n := by rw [h6, List.length_take]; omega
    have hr : r.length + n = q.length := by rw [h7, List.length_drop]; omega
    have hq : q.length + 2 = b.length := by rw [h3, List.length_drop]; omega
    refine ⟨by omega, by omega, ?_⟩
    have e2 := enc_be (b.take 2)
    rw [List.length_take, Nat.min_eq_left h1, ← h2] at e2
    rw [hx, e2, h6, h7, List.take_append_drop, h3, List.take_append_drop]
theorem getL_len {b : B} {xs : List α} {r : B} (hf : ∀ b x r, f b = .ok (x, r) → r.length ≤ b.length) (h : getL f b = .ok (xs, r)) : xs.length ≤ 65535 ∧ r.length ≤ b.length := by
  unfold getL at h
  cases hg : getN 2 b with
  | error e => rw [hg] at h; cases h
  | ok p =>
    obtain ⟨n, q⟩ := p
    rw [hg] at h
    obtain ⟨h1, h2, h3, h4⟩ := getN_ok hg
    have := getsM_len hf h
    have hq : q.length + 2 = b.length := by rw [h3, List.length_drop]; omega
    omega
end
theorem gt_ne {b : B} {e : Int} (h : getText b = .error e) : e ≠ 0 := by
  unfold getText at h
  cases hg : getN 2 b with
  | error e' => rw [hg] at h; injection h with h; have := getN_err hg; omega
  | ok p => obtain ⟨n, r⟩ := p; rw [hg] at h; have := takeN_err h; omega
theorem text_ne {b : B} {e : Int} (h : text b = .error e) : e ≠ 0 := by
  unfold text at h
  split at h
  · injection h with h; omega
  · cases h
theorem putL_ne {α : Type} {f : α → Wr} {l : List α} (hf : ∀ x e, f x = .error e → e ≠ 0) {e : Int} (h : putL f l = .error e) : e ≠ 0 := by
  have hm : ∀ (l : List α) (e : Int), putsM f l = .error e → e ≠ 0 := by
    intro l
    induction l with
    | nil => intro e h; cases h
    | cons x l ih =>
      intro e h
      simp only [putsM] at h
      cases hx : f x with
      | error e2 => rw [hx] at h; injection h with h; rw [← h]; exact hf x e2 hx
      | ok b =>
        rw [hx] at h
        simp only at h
        cases hl : putsM f l with
        | error e2 => rw [hl] at h; injection h with h; rw [← h]; exact ih e2 hl
        | ok r => rw [hl] at h; cases h
  unfold putL at h
  split at h
  · injection h with h; omega
  · cases hp : putsM f l with
    | error e2 => rw [hp] at h; injection h with h; rw [← h]; exact hm l e2 hp
    | ok q => rw [hp] at h; cases h
theorem texts_ne {l : List B} {e : Int} (h : texts l = .error e) : e ≠ 0 := putL_ne (fun _ _ h => text_ne h) h
theorem value_ne {v : Val} {e : Int} (h : value v = .error e) : e ≠ 0 := by
  unfold value at h
  split at h
  · cases h
  · split at h
    · cases h
    · split at h
      · cases h
      · injection h with h; omega
theorem bothW_ne {k v : Wr} (hk : ∀ e, k = .error e → e ≠ 0) (hv : ∀ e, v = .error e → e ≠ 0) {e : Int} (h : bothW k v = .error e) : e ≠ 0 := by
  cases k with
  | error e2 => injection h with h; rw [← h]; exact hk e2 rfl
  | ok a =>
    cases v with
    | error e2 => injection h with h; rw [← h]; exact hv e2 rfl
    | ok b => cases h
theorem pairW_ne {p : B × B} {e : Int} (h : pairW p = .error e) : e ≠ 0 := bothW_ne (fun _ => text_ne) (fun _ => text_ne) h
theorem multiW_ne {p : B × List B} {e : Int} (h : multiW p = .error e) : e ≠ 0 := bothW_ne (fun _ => text_ne) (fun _ => texts_ne) h
theorem entryW_ne {p : B × Val} {e : Int} (h : entryW p = .error e) : e ≠ 0 := bothW_ne (fun _ => text_ne) (fun _ => value_ne) h
theorem pairW_len {p : B × B} {b : B} (h : pairW p = .ok b) : b.length ≤ 131074 := by
  obtain ⟨x, y, hx, hy, rfl⟩ := bothW_ok h
  have := (text_len hx).1
  have := (text_len hy).1
  rw [List.length_append]
  omega
theorem multiW_len {p : B × List B} {b : B} (h : multiW p = .ok b) : b.length ≤ 65539 + p.2.length * 65537 ∧ p.2.length ≤ 65535 := by
  obtain ⟨x, y, hx, hy, rfl⟩ := bothW_ok h
  have := (text_len hx).1
  have := texts_len hy
  rw [List.length_append]
  omega
theorem value_len {v : Val} {b : B} (h : value v = .ok b) : b.length ≤ 4 + v.bytes.length := by
  unfold value at h
  split at h
  · injection h with h; subst h; simp
  · split at h
    · injection h with h; subst h; simp
    · split at h
      · injection h with h; subst h; unfold long; rw [List.length_append, enc_length]; omega
      · cases h
theorem entryW_len {p : B × Val} {b : B} (h : entryW p = .ok b) : b.length ≤ 65541 + p.2.bytes.length := by
  obtain ⟨x, y, hx, hy, rfl⟩ := bothW_ok h
  have := (text_len hx).1
  have := value_len hy
  rw [List.length_append]
  omega
end Sb

/- Plain mathematics: what is put is got, with what is behind; what is cut ends too early; what is got is put as it was. No conditions. -/
namespace Sb

theorem getN_back {n x : Nat} {r : B} (h : x < 256 ^ n) : getN n (enc n x ++ r) = .ok (x, r) := by
  unfold getN
  rw [if_neg (by rw [List.length_append, enc_length]; omega)]
  have h1 : (enc n x ++ r).take n = enc n x := by rw [List.take_append_of_le_length (by rw [enc_length]; omega), List.take_of_length_le (by rw [enc_length]; omega)]
  have h2 : (enc n x ++ r).drop n = r := by
    have := List.drop_append_of_le_length (l₁ := enc n x) (l₂ := r) (i := n) (by rw [enc_length]; omega)
    rw [this, List.drop_eq_nil_of_le (by rw [enc_length]; omega), List.nil_append]
  rw [h1, h2, be_enc, Nat.mod_eq_of_lt h]
theorem getN_cut {n : Nat} {b : B} (h : b.length < n) : getN n b = .error 10 := by unfold getN; rw [if_pos h]
theorem takeN_back {s r : B} : takeN s.length (s ++ r) = .ok (s, r) := by
  unfold takeN
  rw [if_neg (by rw [List.length_append]; omega), List.take_left, List.drop_left]
theorem takeN_cut {n : Nat} {b : B} (h : b.length < n) : takeN n b = .error 10 := by unfold takeN; rw [if_pos h]
theorem getN_fore {n : Nat} {b : B} {x : Nat} {r : B} (h : getN n b = .ok (x, r)) : enc n x ++ r = b := by
  obtain ⟨h1, h2, h3, _⟩ := getN_ok h
  have hl : (b.take n).length = n := by rw [List.length_take]; omega
  have := enc_be (b.take n)
  rw [hl, ← h2] at this
  rw [this, h3, List.take_append_drop]
theorem takeN_fore {n : Nat} {b x r : B} (h : takeN n b = .ok (x, r)) : x ++ r = b ∧ x.length = n := by
  obtain ⟨h1, h2, h3⟩ := takeN_ok h
  subst h2 h3
  exact ⟨List.take_append_drop _ _, by rw [List.length_take]; omega⟩
theorem take_app_lt {x y : B} {k : Nat} (h : k < x.length) : (x ++ y).take k = x.take k := List.take_append_of_le_length (by omega)
theorem take_app_ge {x y : B} {k : Nat} (h : ¬ k < x.length) : (x ++ y).take k = x ++ y.take (k - x.length) := by
  rw [List.take_append, List.take_of_length_le (by omega)]

/-- what f puts, g gets, with what is behind; h: as what it is got -/
def Back {α β : Type} (D : α → Prop) (f : α → Wr) (g : B → Res β) (h : α → β) : Prop := ∀ x b r, D x → f x = .ok b → g (b ++ r) = .ok (h x, r)
/-- what f puts, cut anywhere, ends too early -/
def Cut {α β : Type} (D : α → Prop) (f : α → Wr) (g : B → Res β) : Prop := ∀ x b k, D x → f x = .ok b → k < b.length → g (b.take k) = .error 10
/-- what g gets, f puts as it was -/
def Fore {α : Type} (f : α → Wr) (g : B → Res α) : Prop := ∀ b x r, g b = .ok (x, r) → ∃ y, f x = .ok y ∧ y ++ r = b
theorem Back.nil {α β : Type} {D : α → Prop} {f : α → Wr} {g : B → Res β} {h : α → β} (H : Back D f g h) {x : α} {b : B} (hx : D x) (hb : f x = .ok b) : g b = .ok (h x, []) := by
  have := H x b [] hx hb
  rwa [List.append_nil] at this

theorem text_back (D : B → Prop) : Back D text getText id := by
  intro s b r _ h
  obtain ⟨_, h2, rfl⟩ := text_len h
  unfold getText
  rw [List.append_assoc, getN_back (by simp; omega)]
  exact takeN_back
theorem text_cut (D : B → Prop) : Cut D text getText := by
  intro s b k _ h hk
  obtain ⟨_, h2, rfl⟩ := text_len h
  rw [List.length_append, enc_length] at hk
  unfold getText
  by_cases h3 : k < 2
  · rw [take_app_lt (by rw [enc_length]; omega), getN_cut (by rw [List.length_take, enc_length]; omega)]
  · rw [take_app_ge (by rw [enc_length]; omega), enc_length, getN_back (by simp; omega)]
    exact takeN_cut (by rw [List.length_take]; omega)
theorem text_fore : Fore text getText := by
  intro b x r h
  obtain ⟨h1, _, h3⟩ := getText_ok h
  refine ⟨enc 2 x.length ++ x, ?_, by rw [List.append_assoc]; exact h3.symm⟩
  unfold text
  rw [if_neg (by omega)]

section
variable {α β α' β' : Type} {D : α → Prop} {D' : α' → Prop} {f : α → Wr} {g : B → Res β} {h : α → β} {f' : α' → Wr} {g' : B → Res β'} {h' : α' → β'}
theorem both_back (H : Back D f g h) (H' : Back D' f' g' h') : Back (fun p : α × α' => D p.1 ∧ D' p.2) (fun p => bothW (f p.1) (f' p.2)) (bothR g g') (fun p => (h p.1, h' p.2)) := by
  intro p b r hd hp
  obtain ⟨x, y, h1, h2, rfl⟩ := bothW_ok hp
  unfold bothR
  rw [List.append_assoc, H _ _ _ hd.1 h1]
  simp only
  rw [H' _ _ _ hd.2 h2]
theorem both_cut (H : Back D f g h) (C : Cut D f g) (C' : Cut D' f' g') : Cut (fun p : α × α' => D p.1 ∧ D' p.2) (fun p => bothW (f p.1) (f' p.2)) (bothR g g') := by
  intro p b k hd hp hk
  obtain ⟨x, y, h1, h2, rfl⟩ := bothW_ok hp
  rw [List.length_append] at hk
  unfold bothR
  by_cases h3 : k < x.length
  · rw [take_app_lt h3, C _ _ _ hd.1 h1 h3]
  · rw [take_app_ge h3, H _ _ _ hd.1 h1]
    simp only
    rw [C' _ _ _ hd.2 h2 (by omega)]
theorem both_fore {g : B → Res α} {g' : B → Res α'} (F : Fore f g) (F' : Fore f' g') : Fore (fun p : α × α' => bothW (f p.1) (f' p.2)) (bothR g g') := by
  intro b p r hp
  unfold bothR at hp
  cases h1 : g b with
  | error e => rw [h1] at hp; cases hp
  | ok q =>
    obtain ⟨x, r1⟩ := q
    rw [h1] at hp
    simp only at hp
    cases h2 : g' r1 with
    | error e => rw [h2] at hp; cases hp
    | ok q2 =>
      obtain ⟨y, r2⟩ := q2
      rw [h2] at hp
      injection hp with hp
      injection hp with h3 h4
      subst h3 h4
      obtain ⟨z1, e1, rfl⟩ := F _ _ _ h1
      obtain ⟨z2, e2, rfl⟩ := F' _ _ _ h2
      exact ⟨z1 ++ z2, by simp only [bothW, e1, e2], by rw [List.append_assoc]⟩
theorem putsM_back (H : Back D f g h) : ∀ (l : List α) (b r : B), (∀ x ∈ l, D x) → putsM f l = .ok b → getsM g l.length (b ++ r) = .ok (l.map h, r)
  | [], b, r, _, hb => by injection hb with hb; subst hb; rfl
  | x :: l, b, r, hd, hb => by
    simp only [putsM] at hb
    cases h1 : f x with
    | error e => rw [h1] at hb; cases hb
    | ok y =>
      rw [h1] at hb
      simp only at hb
      cases h2 : putsM f l with
      | error e => rw [h2] at hb; cases hb
      | ok z =>
        rw [h2] at hb
        injection hb with hb
        subst hb
        simp only [List.length_cons, getsM]
        rw [List.append_assoc, H _ _ _ (hd x (by simp)) h1]
        simp only
        rw [putsM_back H l z r (fun y hy => hd y (by simp [hy])) h2]
        rfl
theorem putsM_cut (H : Back D f g h) (C : Cut D f g) : ∀ (l : List α) (b : B) (k : Nat), (∀ x ∈ l, D x) → putsM f l = .ok b → k < b.length → getsM g l.length (b.take k) = .error 10
  | [], b, k, _, hb, hk => by injection hb with hb; subst hb; simp at hk
  | x :: l, b, k, hd, hb, hk => by
    simp only [putsM] at hb
    cases h1 : f x with
    | error e => rw [h1] at hb; cases hb
    | ok y =>
      rw [h1] at hb
      simp only at hb
      cases h2 : putsM f l with
      | error e => rw [h2] at hb; cases hb
      | ok z =>
        rw [h2] at hb
        injection hb with hb
        subst hb
        rw [List.length_append] at hk
        simp only [List.length_cons, getsM]
        by_cases h3 : k < y.length
        · rw [take_app_lt h3, C _ _ _ (hd x (by simp)) h1 h3]
        · rw [take_app_ge h3, H _ _ _ (hd x (by simp)) h1]
          simp only
          rw [putsM_cut H C l z (k - y.length) (fun y hy => hd y (by simp [hy])) h2 (by omega)]
theorem getsM_fore {g : B → Res α} (F : Fore f g) : ∀ (n : Nat) (b : B) (l : List α) (r : B), getsM g n b = .ok (l, r) → l.length = n ∧ ∃ y, putsM f l = .ok y ∧ y ++ r = b
  | 0, b, l, r, hb => by injection hb with hb; injection hb with h1 h2; subst h1 h2; exact ⟨rfl, [], rfl, rfl⟩
  | n + 1, b, l, r, hb => by
    simp only [getsM] at hb
    cases h1 : g b with
    | error e => rw [h1] at hb; cases hb
    | ok p =>
      obtain ⟨x, r1⟩ := p
      rw [h1] at hb
      simp only at hb
      cases h2 : getsM g n r1 with
      | error e => rw [h2] at hb; cases hb
      | ok q =>
        obtain ⟨l2, r2⟩ := q
        rw [h2] at hb
        injection hb with hb
        injection hb with h3 h4
        subst h3 h4
        obtain ⟨y, e1, rfl⟩ := F _ _ _ h1
        obtain ⟨hl, z, e2, rfl⟩ := getsM_fore F n _ _ _ h2
        exact ⟨by simp [hl], y ++ z, by simp only [putsM, e1, e2], by rw [List.append_assoc]⟩
theorem putL_parts {l : List α} {b : B} (hb : putL f l = .ok b) : l.length ≤ 65535 ∧ ∃ y, putsM f l = .ok y ∧ b = enc 2 l.length ++ y := by
  unfold putL at hb
  split at hb
  · cases hb
  · cases h2 : putsM f l with
    | error e => rw [h2] at hb; cases hb
    | ok z => rw [h2] at hb; injection hb with hb; exact ⟨by omega, z, rfl, hb.symm⟩
theorem putL_back (H : Back D f g h) : Back (fun l => ∀ x ∈ l, D x) (putL f) (getL g) (List.map h) := by
  intro l b r hd hb
  obtain ⟨hl, y, hy, rfl⟩ := putL_parts hb
  unfold getL
  rw [List.append_assoc, getN_back (by simp; omega)]
  exact putsM_back H l y r hd hy
theorem putL_cut (H : Back D f g h) (C : Cut D f g) : Cut (fun l => ∀ x ∈ l, D x) (putL f) (getL g) := by
  intro l b k hd hb hk
  obtain ⟨hl, y, hy, rfl⟩ := putL_parts hb
  rw [List.length_append, enc_length] at hk
  unfold getL
  by_cases h3 : k < 2
  · rw [take_app_lt (by rw [enc_length]; omega), getN_cut (by rw [List.length_take, enc_length]; omega)]
  · rw [take_app_ge (by rw [enc_length]; omega), enc_length, getN_back (by simp; omega)]
    exact putsM_cut H C l y (k - 2) hd hy (by omega)
theorem getL_fore {g : B → Res α} (F : Fore f g) : Fore (putL f) (getL g) := by
  intro b l r hb
  unfold getL at hb
  cases h1 : getN 2 b with
  | error e => rw [h1] at hb; cases hb
  | ok p =>
    obtain ⟨n, r1⟩ := p
    rw [h1] at hb
    obtain ⟨hl, y, hy, rfl⟩ := getsM_fore F n r1 l r hb
    have hn := (getN_ok h1).2.2.2
    refine ⟨enc 2 n ++ y, ?_, by rw [List.append_assoc]; exact getN_fore h1⟩
    unfold putL
    rw [if_neg (by simp at hn; omega), hy, hl]
theorem Back.mono {D1 : α → Prop} (H : Back D f g h) (hD : ∀ x, D1 x → D x) : Back D1 f g h := fun x b r hx => H x b r (hD x hx)
theorem Cut.mono {D1 : α → Prop} (H : Cut D f g) (hD : ∀ x, D1 x → D x) : Cut D1 f g := fun x b r hx => H x b r (hD x hx)
end

/-! Long texts and values. -/
theorem getNum_back {n : Nat} {r : B} (h : n < 4294967296) : getNum (enc 4 n ++ r) = .ok (sgn 4 n, r) := by
  unfold getNum
  rw [getN_back (by simpa using h)]
theorem getNum_cut {b : B} (h : b.length < 4) : getNum b = .error 10 := by unfold getNum; rw [getN_cut h]
theorem sgn4_small {n : Nat} (h : n < 2147483648) : sgn 4 n = (n : Int) := by unfold sgn; simp only [Nat.reducePow, Nat.reduceDiv]; rw [if_pos h]
def short31 (s : B) : Prop := s.length < 2147483648
theorem long_back : Back short31 (fun s => .ok (long s)) getLong id := by
  intro s b r hs h
  unfold short31 at hs
  injection h with h
  subst h
  unfold getLong long
  rw [List.append_assoc, getNum_back (by omega)]
  simp only
  rw [sgn4_small hs, if_neg (by omega)]
  exact takeN_back
theorem long_cut : Cut short31 (fun s => .ok (long s)) getLong := by
  intro s b k hs h hk
  unfold short31 at hs
  injection h with h
  subst h
  unfold long at hk ⊢
  rw [List.length_append, enc_length] at hk
  unfold getLong
  by_cases h3 : k < 4
  · rw [take_app_lt (by rw [enc_length]; omega), getNum_cut (by rw [List.length_take, enc_length]; omega)]
  · rw [take_app_ge (by rw [enc_length]; omega), enc_length, getNum_back (by omega)]
    simp only
    rw [sgn4_small hs, if_neg (by omega)]
    exact takeN_cut (by rw [List.length_take]; simp; omega)
/-- a value as it is got -/
def Val.norm (v : Val) : Val := if v.kind = 2 then v else ⟨v.kind, []⟩
def val31 (v : Val) : Prop := v.bytes.length < 2147483648
theorem value_parts {v : Val} {b : B} (h : value v = .ok b) : (v.kind = 0 ∧ b = enc 4 4294967295) ∨ (v.kind = 1 ∧ b = enc 4 4294967294) ∨ (v.kind = 2 ∧ b = enc 4 v.bytes.length ++ v.bytes) := by
  unfold value at h
  split at h
  · injection h with h; exact .inl ⟨‹_›, h ▸ by decide +kernel⟩
  · split at h
    · injection h with h; exact .inr (.inl ⟨‹_›, h ▸ by decide +kernel⟩)
    · split at h
      · injection h with h; exact .inr (.inr ⟨‹_›, h ▸ rfl⟩)
      · cases h
theorem sgn4_m1 : sgn 4 4294967295 = -1 := by decide +kernel
theorem sgn4_m2 : sgn 4 4294967294 = -2 := by decide +kernel
theorem value_back : Back val31 value getValue Val.norm := by
  intro v b r hv h
  unfold val31 at hv
  unfold getValue
  rcases value_parts h with ⟨hk, rfl⟩ | ⟨hk, rfl⟩ | ⟨hk, rfl⟩
  · rw [getNum_back (by omega)]
    simp only [sgn4_m1, if_true]
    simp [Val.norm, hk]
  · rw [getNum_back (by omega)]
    simp only [sgn4_m2]
    simp [Val.norm, hk]
  · rw [List.append_assoc, getNum_back (by omega)]
    simp only
    rw [sgn4_small hv, if_neg (by omega), if_neg (by omega), if_neg (by omega), Int.toNat_natCast, takeN_back]
    obtain ⟨k, s⟩ := v
    simp only at hk
    subst hk
    rfl
theorem value_cut : Cut val31 value getValue := by
  intro v b k hv h hk
  unfold val31 at hv
  unfold getValue
  rcases value_parts h with ⟨_, rfl⟩ | ⟨_, rfl⟩ | ⟨_, rfl⟩
  · rw [enc_length] at hk
    rw [getNum_cut (by rw [List.length_take, enc_length]; omega)]
  · rw [enc_length] at hk
    rw [getNum_cut (by rw [List.length_take, enc_length]; omega)]
  · rw [List.length_append, enc_length] at hk
    by_cases h3 : k < 4
    · rw [take_app_lt (by rw [enc_length]; omega), getNum_cut (by rw [List.length_take, enc_length]; omega)]
    · rw [take_app_ge (by rw [enc_length]; omega), enc_length, getNum_back (by omega)]
      simp only
      rw [sgn4_small hv, if_neg (by omega), if_neg (by omega), if_neg (by omega), Int.toNat_natCast, takeN_cut (by rw [List.length_take]; omega)]
theorem texts_back : Back (fun _ => True) texts getTexts (List.map id) := (putL_back (text_back fun _ => True)).mono fun _ _ _ _ => trivial
theorem texts_back' {l : List B} {b r : B} (h : texts l = .ok b) : getTexts (b ++ r) = .ok (l, r) := by
  have := texts_back l b r trivial h
  rwa [List.map_id] at this
theorem texts_cut : Cut (fun _ => True) texts getTexts := (putL_cut (text_back fun _ => True) (text_cut _)).mono fun _ _ _ _ => trivial
theorem texts_fore : Fore texts getTexts := getL_fore text_fore
theorem pair_back : Back (fun _ => True) pairW pairR id := (both_back (text_back fun _ => True) (text_back fun _ => True)).mono fun _ _ => ⟨trivial, trivial⟩
theorem pair_cut : Cut (fun _ => True) pairW pairR := (both_cut (text_back fun _ => True) (text_cut _) (text_cut fun _ => True)).mono fun _ _ => ⟨trivial, trivial⟩
theorem pairs_back' {l : List (B × B)} {b r : B} (h : putL pairW l = .ok b) : getL pairR (b ++ r) = .ok (l, r) := by
  have := putL_back pair_back l b r (fun _ _ => trivial) h
  rwa [List.map_id] at this
theorem pairs_cut : Cut (fun _ => True) (putL pairW) (getL pairR) := (putL_cut pair_back pair_cut).mono fun _ _ _ _ => trivial
theorem multi_back : Back (fun _ => True) multiW multiR id := by
  have := (both_back (text_back fun _ => True) texts_back).mono (D1 := fun _ => True) fun _ _ => ⟨trivial, trivial⟩
  intro x b r hx h
  have h2 : bothR getText getTexts (b ++ r) = .ok ((x.1, x.2.map id), r) := this x b r hx h
  rw [List.map_id] at h2
  exact h2
theorem multis_back' {l : List (B × List B)} {b r : B} (h : putL multiW l = .ok b) : getL multiR (b ++ r) = .ok (l, r) := by
  have := putL_back multi_back l b r (fun _ _ => trivial) h
  rwa [List.map_id] at this
theorem entry_back : Back (fun p : B × Val => val31 p.2) entryW entryR (fun p => (p.1, p.2.norm)) := (both_back (text_back fun _ => True) value_back).mono fun _ h => ⟨trivial, h⟩
theorem entry_cut : Cut (fun p : B × Val => val31 p.2) entryW entryR := (both_cut (text_back fun _ => True) (text_cut _) value_cut).mono fun _ h => ⟨trivial, h⟩
theorem entries_back {l : List (B × Val)} {b r : B} (hl : ∀ x ∈ l, val31 x.2) (h : putL entryW l = .ok b) : getL entryR (b ++ r) = .ok (l.map fun p => (p.1, p.2.norm), r) := putL_back entry_back l b r hl h
theorem entries_cut : Cut (fun l => ∀ x ∈ l, val31 x.2) (putL entryW) (getL entryR) := putL_cut entry_back entry_cut

/-! Addresses and consistencies. -/
theorem inet_parts {a : Adr} {b : B} (h : inet a = .ok b) : (a.addr.length = 4 ∨ a.addr.length = 16) ∧ b = enc 1 a.addr.length ++ (a.addr ++ enc 4 a.port) := by
  unfold inet at h
  split at h
  · rename_i hl
    injection h with h
    refine ⟨hl, ?_⟩
    subst h
    have e : enc 1 a.addr.length = [UInt8.ofNat a.addr.length] := by simp [enc, encAt]
    rw [e]
    rfl
  · cases h
theorem inet_back : Back (fun a : Adr => a.port < 4294967296) inet getInet id := by
  intro a b r ha h
  obtain ⟨hl, rfl⟩ := inet_parts h
  unfold getInet
  rw [List.append_assoc, getN_back (by simp; omega)]
  simp only
  rw [if_pos (by omega), List.append_assoc, takeN_back]
  simp only
  rw [getN_back (by simpa using ha)]
  rfl
theorem inet_cut : Cut (fun a : Adr => a.port < 4294967296) inet getInet := by
  intro a b k ha h hk
  obtain ⟨hl, rfl⟩ := inet_parts h
  rw [List.length_append, List.length_append, enc_length, enc_length] at hk
  unfold getInet
  by_cases h3 : k < 1
  · rw [take_app_lt (by rw [enc_length]; omega), getN_cut (by rw [List.length_take, enc_length]; omega)]
  · rw [take_app_ge (by rw [enc_length]; omega), enc_length, getN_back (by simp; omega)]
    simp only
    rw [if_pos (by omega)]
    by_cases h4 : k - 1 < a.addr.length
    · rw [take_app_lt h4, takeN_cut (by rw [List.length_take]; omega)]
    · rw [take_app_ge h4, takeN_back]
      simp only
      rw [getN_cut (by rw [List.length_take, enc_length]; omega)]
theorem cons_back : Back (fun _ => True) cons getCons id := by
  intro c b r _ h
  unfold cons at h
  split at h
  · cases h
  · injection h with h
    subst h
    unfold getCons
    rw [getN_back (by simp; omega)]
    simp only
    rw [if_neg (by omega)]
    rfl
theorem inet_fore : Fore inet getInet := by
  intro b a r h
  unfold getInet at h
  cases h1 : getN 1 b with
  | error e => rw [h1] at h; cases h
  | ok p =>
    obtain ⟨n, r1⟩ := p
    rw [h1] at h
    simp only at h
    split at h
    · rename_i hn
      cases h2 : takeN n r1 with
      | error e => rw [h2] at h; cases h
      | ok p2 =>
        obtain ⟨x, r2⟩ := p2
        rw [h2] at h
        simp only at h
        cases h3 : getN 4 r2 with
        | error e => rw [h3] at h; cases h
        | ok p3 =>
          obtain ⟨q, r3⟩ := p3
          rw [h3] at h
          injection h with h
          injection h with e1 e2
          subst e1 e2
          obtain ⟨e3, e4⟩ := takeN_fore h2
          have e5 := getN_fore h1
          have e6 := getN_fore h3
          have e : enc 1 x.length = [UInt8.ofNat x.length] := by simp [enc, encAt]
          refine ⟨UInt8.ofNat x.length :: x ++ enc 4 q, ?_, ?_⟩
          · unfold inet
            rw [if_pos (by simp only; omega)]
          · rw [← e5, ← e3, ← e6, ← e4, e]
            simp
    · cases h
theorem cons_fore : Fore cons getCons := by
  intro b c r h
  unfold getCons at h
  cases h1 : getN 2 b with
  | error e => rw [h1] at h; cases h
  | ok p =>
    obtain ⟨n, r1⟩ := p
    rw [h1] at h
    simp only at h
    split at h
    · cases h
    · injection h with h
      injection h with e1 e2
      subst e1 e2
      exact ⟨enc 2 n, by unfold cons; rw [if_neg (by omega)], getN_fore h1⟩
theorem getNum_fore {b : B} {n : Int} {r : B} (h : getNum b = .ok (n, r)) : ∃ x, n = sgn 4 x ∧ x < 4294967296 ∧ enc 4 x ++ r = b := by
  unfold getNum at h
  cases h1 : getN 4 b with
  | error e => rw [h1] at h; cases h
  | ok p =>
    obtain ⟨x, r1⟩ := p
    rw [h1] at h
    injection h with h
    injection h with e1 e2
    subst e1 e2
    exact ⟨x, rfl, by have := (getN_ok h1).2.2.2; simpa using this, getN_fore h1⟩
theorem sgn4_inv {x : Nat} (h : x < 4294967296) : (x : Int) = if sgn 4 x < 0 then sgn 4 x + 4294967296 else sgn 4 x := by
  unfold sgn
  simp only [Nat.reducePow, Nat.reduceDiv]
  by_cases h1 : x < 2147483648
  · rw [if_pos h1, if_neg (by omega)]
  · rw [if_neg h1, if_pos (by omega)]; omega
theorem long_fore : Fore (fun s => .ok (long s)) getLong := by
  intro b s r h
  unfold getLong at h
  cases h1 : getNum b with
  | error e => rw [h1] at h; cases h
  | ok p =>
    obtain ⟨n, r1⟩ := p
    rw [h1] at h
    simp only at h
    split at h
    · cases h
    · obtain ⟨x, rfl, hx, e1⟩ := getNum_fore h1
      obtain ⟨e2, e3⟩ := takeN_fore h
      have := sgn4_inv hx
      rw [if_neg (by assumption)] at this
      refine ⟨_, rfl, ?_⟩
      unfold long
      rw [show s.length = x by omega, List.append_assoc, e2, e1]
theorem value_fore : Fore value getValue := by
  intro b v r h
  unfold getValue at h
  cases h1 : getNum b with
  | error e => rw [h1] at h; cases h
  | ok p =>
    obtain ⟨n, r1⟩ := p
    rw [h1] at h
    simp only at h
    obtain ⟨x, rfl, hx, e1⟩ := getNum_fore h1
    have hi := sgn4_inv hx
    split at h
    · rename_i hn
      injection h with h
      injection h with e2 e3
      subst e2 e3
      rw [hn, if_pos (by omega)] at hi
      obtain rfl : x = 4294967295 := by omega
      exact ⟨_, rfl, by rw [← e1]; congr 1⟩
    · split at h
      · rename_i hn
        injection h with h
        injection h with e2 e3
        subst e2 e3
        rw [hn, if_pos (by omega)] at hi
        obtain rfl : x = 4294967294 := by omega
        exact ⟨_, rfl, by rw [← e1]; congr 1⟩
      · split at h
        · cases h
        · cases h2 : takeN (sgn 4 x).toNat r1 with
          | error e => rw [h2] at h; cases h
          | ok p2 =>
            obtain ⟨y, r2⟩ := p2
            rw [h2] at h
            injection h with h
            injection h with e2 e3
            subst e2 e3
            obtain ⟨e4, e5⟩ := takeN_fore h2
            rw [if_neg (by assumption)] at hi
            refine ⟨long y, rfl, ?_⟩
            unfold long
            rw [show y.length = x by omega, List.append_assoc, e4, e1]
theorem entries_fore : Fore (putL entryW) (getL entryR) := getL_fore (both_fore text_fore value_fore)
theorem pairs_fore : Fore (putL pairW) (getL pairR) := getL_fore (both_fore text_fore text_fore)
theorem multis_fore : Fore (putL multiW) (getL multiR) := getL_fore (both_fore text_fore texts_fore)
end Sb
