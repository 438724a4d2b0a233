/- Plain mathematics of the frames' parts: bytes and numbers; no program in sight. No conditions. -/
set_option linter.unusedVariables false
set_option linter.unusedSimpArgs false
namespace Sb

abbrev B := List UInt8

/-- the number that bytes make, the highest first -/
def be (l : B) : Nat := l.foldl (fun x b => x * 256 + b.toNat) 0
/-- byte j of a number in n bytes -/
def encAt (n x j : Nat) : UInt8 := UInt8.ofNat (x / 256 ^ (n - 1 - j))
/-- a number in n bytes -/
def enc (n x : Nat) : B := (List.range n).map (encAt n x)

theorem enc_length (n x : Nat) : (enc n x).length = n := by simp [enc]

theorem be_snoc (l : B) (b : UInt8) : be (l ++ [b]) = be l * 256 + b.toNat := by simp [be, List.foldl_append]
theorem be_lt_aux (l : B) : ∀ a, l.foldl (fun x b => x * 256 + b.toNat) a + 1 ≤ (a + 1) * 256 ^ l.length := by
  induction l with
  | nil => intro a; simp
  | cons b l ih =>
    intro a
    have h := ih (a * 256 + b.toNat)
    have hb := b.toNat_lt
    simp only [List.foldl_cons, List.length_cons, Nat.pow_succ]
    refine Nat.le_trans h ?_
    rw [Nat.mul_comm (256 ^ l.length) 256, ← Nat.mul_assoc]
    exact Nat.mul_le_mul_right _ (by omega)
theorem be_lt (l : B) : be l < 256 ^ l.length := by
  have := be_lt_aux l 0
  simp at this
  exact this
theorem be_take_succ (l : B) (k : Nat) (h : k < l.length) : be (l.take (k + 1)) = be (l.take k) * 256 + l[k].toNat := by
  rw [List.take_succ_eq_append_getElem h, be_snoc]

/-- what a reading gives: what is read and what is behind, or an error's number -/
abbrev Res (α : Type) := Except Int (α × B)
def rerr {α : Type} : Res α → Int | .ok _ => 0 | .error e => e
def rval {α : Type} (d : α) : Res α → α | .ok x => x.1 | .error _ => d
def rrest {α : Type} : Res α → B | .ok x => x.2 | .error _ => []
@[simp] theorem rerr_ok {α : Type} (x : α × B) : rerr (.ok x : Res α) = 0 := rfl
@[simp] theorem rerr_error {α : Type} (e : Int) : rerr (.error e : Res α) = e := rfl
@[simp] theorem rval_ok {α : Type} (d : α) (x : α × B) : rval d (.ok x : Res α) = x.1 := rfl
@[simp] theorem rval_error {α : Type} (d : α) (e : Int) : rval d (.error e : Res α) = d := rfl
@[simp] theorem rrest_ok {α : Type} (x : α × B) : rrest (.ok x : Res α) = x.2 := rfl
@[simp] theorem rrest_error {α : Type} (e : Int) : rrest (.error e : Res α) = [] := rfl
/-- what a writing gives: bytes, or an error's number -/
abbrev Wr := Except Int B
def werr : Wr → Int | .ok _ => 0 | .error e => e
def wval : Wr → B | .ok x => x | .error _ => []
@[simp] theorem werr_ok (x : B) : werr (.ok x) = 0 := rfl
@[simp] theorem werr_error (e : Int) : werr (.error e) = e := rfl
@[simp] theorem wval_ok (x : B) : wval (.ok x) = x := rfl
@[simp] theorem wval_error (e : Int) : wval (.error e) = [] := rfl

/-- the place behind what was read -/
def AtR {α : Type} (bs : B) (to : Nat) (r : Res α) : Prop := (∀ x, r = .ok x → to ≤ bs.length ∧ bs.drop to = x.2) ∧ (∀ e, r = .error e → to = 0)
theorem AtR.err {α : Type} {bs : B} {e : Int} : AtR (α := α) bs 0 (.error e) := ⟨fun _ h => (by cases h), fun _ _ => rfl⟩
theorem AtR.ok {α : Type} {bs : B} {q : Nat} {x : α × B} (h : q ≤ bs.length) (h2 : bs.drop q = x.2) : AtR bs q (.ok x) := ⟨fun y hy => by injection hy with hy; subst hy; exact ⟨h, h2⟩, fun _ h => (by cases h)⟩
theorem AtR.le {α : Type} {bs : B} {q : Nat} {x : α × B} (h : AtR bs q (.ok x)) : q ≤ bs.length := (h.1 x rfl).1
theorem AtR.drop {α : Type} {bs : B} {q : Nat} {x : α × B} (h : AtR bs q (.ok x)) : bs.drop q = x.2 := (h.1 x rfl).2
theorem AtR.zero {α : Type} {bs : B} {q : Nat} {e : Int} (h : AtR (α := α) bs q (.error e)) : q = 0 := h.2 e rfl

/-- a number of n bytes -/
def getN (n : Nat) (bs : B) : Res Nat := if bs.length < n then .error 10 else .ok (be (bs.take n), bs.drop n)
/-- so many bytes -/
def takeN (n : Nat) (bs : B) : Res B := if bs.length < n then .error 10 else .ok (bs.take n, bs.drop n)
/-- a number of n bytes, with its sign -/
def sgn (n x : Nat) : Int := if x < 256 ^ n / 2 then x else (x : Int) - ((256 ^ n : Nat) : Int)

theorem be_fold (l : B) : ∀ a, l.foldl (fun x b => x * 256 + b.toNat) a = a * 256 ^ l.length + be l := by
  induction l with
  | nil => intro a; simp [be]
  | cons b l ih =>
    intro a
    have h1 := ih (a * 256 + b.toNat)
    have h2 := ih (0 * 256 + b.toNat)
    unfold be at h1 h2 ⊢
    simp only [List.foldl_cons, List.length_cons] at h1 h2 ⊢
    rw [h1, h2, Nat.pow_succ, Nat.add_mul, Nat.mul_assoc, Nat.mul_comm 256]
    simp [Nat.add_assoc]
theorem be_cons (b : UInt8) (l : B) : be (b :: l) = b.toNat * 256 ^ l.length + be l := by
  have := be_fold l (0 * 256 + b.toNat)
  unfold be at this ⊢
  simpa using this
theorem enc_succ (n x : Nat) : enc (n + 1) x = enc n (x / 256) ++ [UInt8.ofNat x] := by
  apply List.ext_getElem
  · simp [enc]
  · intro j h1 h2
    simp [enc] at h1 h2
    by_cases h : j < n
    · rw [List.getElem_append_left (by simpa [enc] using h)]
      simp only [enc, List.getElem_map, List.getElem_range, encAt]
      have e : n + 1 - 1 - j = (n - 1 - j) + 1 := by omega
      rw [e, Nat.pow_succ, Nat.mul_comm, ← Nat.div_div_eq_div_mul]
    · have hj : j = n := by omega
      subst hj
      simp [enc, encAt]
theorem be_enc (n : Nat) : ∀ x, be (enc n x) = x % 256 ^ n := by
  induction n with
  | zero => intro x; simp [enc, be, Nat.mod_one]
  | succ n ih =>
    intro x
    have e : x % 256 ^ (n + 1) = x % 256 + 256 * (x / 256 % 256 ^ n) := by rw [Nat.pow_succ, Nat.mul_comm (256 ^ n) 256, Nat.mod_mul]
    rw [enc_succ, be_snoc, ih, UInt8.toNat_ofNat', e]
    omega
theorem enc_be (l : B) : enc l.length (be l) = l := by
  have key : ∀ n (l : B), l.length = n → enc n (be l) = l := by
    intro n
    induction n with
    | zero => intro l h; rw [List.eq_nil_of_length_eq_zero h]; rfl
    | succ n ih =>
      intro l h
      have hne : l ≠ [] := fun e => by rw [e] at h; simp at h
      have hl := (List.dropLast_concat_getLast hne)
      rw [← hl, be_snoc, enc_succ]
      have hb := (l.getLast hne).toNat_lt
      have e1 : (be l.dropLast * 256 + (l.getLast hne).toNat) / 256 = be l.dropLast := by omega
      rw [e1, ih l.dropLast (by rw [List.length_dropLast, h]; rfl)]
      congr 2
      apply UInt8.toNat.inj
      rw [UInt8.toNat_ofNat']
      omega
  exact key _ l rfl

/-- the number that bytes make, with its sign -/
def sbe (l : B) : Int := match l with
  | [] => 0
  | b :: m => (be (b :: m) : Int) - if 128 ≤ b.toNat then ((256 ^ (m.length + 1) : Nat) : Int) else 0
theorem sbe_one (b : UInt8) : sbe [b] = (b.toNat : Int) - if 128 ≤ b.toNat then 256 else 0 := by simp [sbe, be]
theorem sbe_snoc (l : B) (b : UInt8) (h : l ≠ []) : sbe (l ++ [b]) = sbe l * 256 + b.toNat := by
  cases l with
  | nil => exact absurd rfl h
  | cons a m =>
    simp only [sbe, List.cons_append]
    rw [← List.cons_append, be_snoc]
    by_cases h : 128 ≤ a.toNat
    · simp only [h, if_true, List.length_append, List.length_singleton]
      rw [Nat.pow_succ 256 (m.length + 1)]
      simp only [Int.natCast_add, Int.natCast_mul]
      omega
    · simp only [h, if_false]
      omega
theorem sbe_bound (l : B) (h : l ≠ []) : -((256 ^ l.length / 2 : Nat) : Int) ≤ sbe l ∧ sbe l < ((256 ^ l.length / 2 : Nat) : Int) := by
  cases l with
  | nil => exact absurd rfl h
  | cons a m =>
    have h1 := be_lt m
    have h2 := be_cons a m
    have h3 := a.toNat_lt
    have e : 256 ^ (m.length + 1) / 2 = 128 * 256 ^ m.length := by rw [Nat.pow_succ]; omega
    simp only [sbe, List.length_cons, e, h2]
    have e2 : 256 ^ (m.length + 1) = 256 * 256 ^ m.length := by rw [Nat.pow_succ, Nat.mul_comm]
    generalize 256 ^ m.length = q at *
    by_cases h : 128 ≤ a.toNat
    · simp only [h, if_true, e2]
      obtain ⟨d, hd⟩ : ∃ d, a.toNat = 128 + d := ⟨a.toNat - 128, by omega⟩
      have hdq : d * q + q ≤ 128 * q := by
        have : (d + 1) * q ≤ 128 * q := Nat.mul_le_mul_right _ (by omega)
        rwa [Nat.add_mul, Nat.one_mul] at this
      rw [hd, Nat.add_mul]
      generalize d * q = dq at *
      omega
    · simp only [h, if_false]
      have : (a.toNat + 1) * q ≤ 128 * q := Nat.mul_le_mul_right _ (by omega)
      rw [Nat.add_mul, Nat.one_mul] at this
      generalize a.toNat * q = aq at *
      omega
theorem sbe_enc (n x : Nat) (hn : 1 ≤ n) (hx : x < 256 ^ n) : sbe (enc n x) = sgn n x := by
  obtain ⟨k, rfl⟩ : ∃ k, n = k + 1 := ⟨n - 1, by omega⟩
  have hl := enc_length (k + 1) x
  have hb := be_enc (k + 1) x
  rw [Nat.mod_eq_of_lt hx] at hb
  cases h : enc (k + 1) x with
  | nil => rw [h] at hl; simp at hl
  | cons a m =>
    rw [h] at hl hb
    simp at hl
    have h1 := be_lt m
    have h2 := be_cons a m
    have h3 := a.toNat_lt
    rw [hl] at h1 h2
    have e2 : 256 ^ (k + 1) = 256 * 256 ^ k := by rw [Nat.pow_succ, Nat.mul_comm]
    simp only [sbe, sgn, hb, hl]
    have e : 256 ^ (k + 1) / 2 = 128 * 256 ^ k := by omega
    rw [e]
    generalize 256 ^ (k + 1) = q1 at *
    generalize 256 ^ k = q at *
    by_cases h : 128 ≤ a.toNat
    · have : 128 * q ≤ a.toNat * q := Nat.mul_le_mul_right _ h
      rw [if_pos h, if_neg (by omega)]
    · have : (a.toNat + 1) * q ≤ 128 * q := Nat.mul_le_mul_right _ (by omega)
      rw [Nat.add_mul, Nat.one_mul] at this
      rw [if_neg h, if_pos (by omega)]
      simp

/-! What frames are made of. -/
def text (s : B) : Wr := if s.length > 65535 then .error 12 else .ok (enc 2 s.length ++ s)
def getText (b : B) : Res B := match getN 2 b with
  | .error e => .error e
  | .ok (n, r) => takeN n r
def long (s : B) : B := enc 4 s.length ++ s
def getNum (b : B) : Res Int := match getN 4 b with
  | .error e => .error e
  | .ok (x, r) => .ok (sgn 4 x, r)
def getLong (b : B) : Res B := match getNum b with
  | .error e => .error e
  | .ok (n, r) => if n < 0 then .error 11 else takeN n.toNat r
/-- a value: its kind and its bytes -/
structure Val where
  kind : Int
  bytes : B
def Val.none : Val := ⟨0, []⟩
def value (v : Val) : Wr := if v.kind = 0 then .ok [255, 255, 255, 255] else if v.kind = 1 then .ok [255, 255, 255, 254] else if v.kind = 2 then .ok (long v.bytes) else .error 1
def getValue (b : B) : Res Val := match getNum b with
  | .error e => .error e
  | .ok (n, r) => if n = -1 then .ok (⟨0, []⟩, r) else if n = -2 then .ok (⟨1, []⟩, r) else if n < 0 then .error 11 else match takeN n.toNat r with
    | .error e => .error e
    | .ok (x, r2) => .ok (⟨2, x⟩, r2)
/-- an address: its bytes and its port -/
structure Adr where
  addr : B
  port : Nat
def Adr.none : Adr := ⟨[], 0⟩
def inet (a : Adr) : Wr := if a.addr.length = 4 ∨ a.addr.length = 16 then .ok (UInt8.ofNat a.addr.length :: a.addr ++ enc 4 a.port) else .error 1
def getInet (b : B) : Res Adr := match getN 1 b with
  | .error e => .error e
  | .ok (n, r) => if n = 4 ∨ n = 16 then (match takeN n r with
    | .error e => .error e
    | .ok (x, r2) => match getN 4 r2 with
      | .error e => .error e
      | .ok (p, r3) => .ok (⟨x, p⟩, r3)) else .error 11
def cons (c : Nat) : Wr := if c > 10 then .error 1 else .ok (enc 2 c)
def getCons (b : B) : Res Nat := match getN 2 b with
  | .error e => .error e
  | .ok (c, r) => if c > 10 then .error 11 else .ok (c, r)

theorem getN_err {n : Nat} {b : B} {e : Int} (h : getN n b = .error e) : e = 10 := by
  unfold getN at h; split at h
  · injection h with h; exact h.symm
  · cases h
theorem getN_ok {n : Nat} {b : B} {x : Nat} {r : B} (h : getN n b = .ok (x, r)) : n ≤ b.length ∧ x = be (b.take n) ∧ r = b.drop n ∧ x < 256 ^ n := by
  unfold getN at h; split at h
  · cases h
  · rename_i hl
    injection h with h
    injection h with h1 h2
    refine ⟨by omega, h1.symm, h2.symm, ?_⟩
    have := be_lt (b.take n)
    rw [List.length_take, Nat.min_eq_left (by omega), h1] at this
    exact this
theorem takeN_err {n : Nat} {b : B} {e : Int} (h : takeN n b = .error e) : e = 10 := by
  unfold takeN at h; split at h
  · injection h with h; exact h.symm
  · cases h
theorem takeN_ok {n : Nat} {b : B} {x : B} {r : B} (h : takeN n b = .ok (x, r)) : n ≤ b.length ∧ x = b.take n ∧ r = b.drop n := by
  unfold takeN at h; split at h
  · cases h
  · rename_i hl
    injection h with h
    injection h with h1 h2
    exact ⟨by omega, h1.symm, h2.symm⟩
theorem sgn4_bd (x : Nat) (h : x < 4294967296) : -2147483648 ≤ sgn 4 x ∧ sgn 4 x ≤ 2147483647 := by
  unfold sgn; simp only [Nat.reducePow, Nat.reduceDiv]; split <;> omega
theorem getNum_ok {b : B} {n : Int} {r : B} (h : getNum b = .ok (n, r)) : 4 ≤ b.length ∧ r = b.drop 4 ∧ -2147483648 ≤ n ∧ n ≤ 2147483647 ∧ n = sgn 4 (be (b.take 4)) := by
  unfold getNum at h
  cases hg : getN 4 b with
  | error e => rw [hg] at h; cases h
  | ok p =>
    obtain ⟨x, r'⟩ := p
    rw [hg] at h
    injection h with h
    injection h with h1 h2
    subst h1 h2
    obtain ⟨h3, h4, h5, h6⟩ := getN_ok hg
    exact ⟨h3, h5, (sgn4_bd x (by omega)).1, (sgn4_bd x (by omega)).2, by rw [h4]⟩
theorem getNum_err {b : B} {e : Int} (h : getNum b = .error e) : e = 10 := by
  unfold getNum at h
  cases hg : getN 4 b with
  | error e' => rw [hg] at h; injection h with h; subst h; exact getN_err hg
  | ok p => rw [hg] at h; cases h
end Sb
