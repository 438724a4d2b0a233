/- Plain mathematics of types of values (layer 4): put, got, told; what is put is got; no program in sight. No conditions. -/
import Derived.Test.YtenhgcgdhaegaaaDoorPlain
set_option linter.unusedVariables false
set_option linter.unusedSimpArgs false
namespace Sb

/-- a type of values -/
structure Opt where
  id : Nat
  space : B
  name : B
  names : List B
  kids : List Opt
def Opt.none : Opt := ⟨0, [], [], [], []⟩
/-- the plain types' names -/
def plainNames : List B := [[], [97, 115, 99, 105, 105], [98, 105, 103, 105, 110, 116], [98, 108, 111, 98], [98, 111, 111, 108, 101, 97, 110], [99, 111, 117, 110, 116, 101, 114], [100, 101, 99, 105, 109, 97, 108], [100, 111, 117, 98, 108, 101], [102, 108, 111, 97, 116], [105, 110, 116], [], [116, 105, 109, 101, 115, 116, 97, 109, 112], [117, 117, 105, 100], [118, 97, 114, 99, 104, 97, 114], [118, 97, 114, 105, 110, 116], [116, 105, 109, 101, 117, 117, 105, 100], [105, 110, 101, 116], [100, 97, 116, 101], [116, 105, 109, 101], [115, 109, 97, 108, 108, 105, 110, 116], [116, 105, 110, 121, 105, 110, 116]]
def nameB (id : Nat) : B := (plainNames[id]?).getD []
/-- has a number a plain type's name? -/
def isPlain (id : Nat) : Bool := decide (0 < id ∧ id ≤ 20 ∧ id ≠ 10)
theorem nameB_plain : ∀ id : Fin 21, nameB id ≠ [] ↔ isPlain id = true := by decide +kernel
theorem nameB_ne (id : Nat) : nameB id ≠ [] ↔ isPlain id = true := by
  by_cases h : id < 21
  · exact nameB_plain ⟨id, h⟩
  · unfold nameB isPlain
    rw [List.getElem?_eq_none (by simp [plainNames]; omega)]
    simp
    omega
/-- how many types one has in it; -1: any; -2: it is none -/
def kn (id : Nat) : Int := if id = 0 ∨ isPlain id = true then 0 else if id = 32 ∨ id = 34 then 1 else if id = 33 then 2 else if id = 48 ∨ id = 49 then -1 else -2
theorem kn_range (id : Nat) : -2 ≤ kn id ∧ kn id ≤ 2 := by unfold kn; repeat (first | split | omega)
theorem kn_many {id : Nat} (h : kn id = -1) : id = 48 ∨ id = 49 := by
  unfold kn at h
  by_cases h1 : id = 0 ∨ isPlain id = true
  · rw [if_pos h1] at h; omega
  · rw [if_neg h1] at h
    by_cases h2 : id = 32 ∨ id = 34
    · rw [if_pos h2] at h; omega
    · rw [if_neg h2] at h
      by_cases h3 : id = 33
      · rw [if_pos h3] at h; omega
      · rw [if_neg h3] at h
        by_cases h4 : id = 48 ∨ id = 49
        · exact h4
        · rw [if_neg h4] at h; omega
theorem kn_48 : kn 48 = -1 := by decide
theorem kn_49 : kn 49 = -1 := by decide
/-- has a type just what it must? -/
def ownO (o : Opt) : Bool := decide (kn o.id ≠ -2 ∧ (0 ≤ kn o.id → (o.kids.length : Int) = kn o.id) ∧ (if o.id = 48 then o.names.length = o.kids.length else o.names.length = 0))
/-- how many types, with itself; d: of so many levels -/
def nD : Nat → Opt → Nat
  | 0, _ => 1
  | d + 1, o => 1 + (o.kids.map (nD d)).sum
def maxL (l : List Nat) : Nat := l.foldl max 0
def depthD : Nat → Opt → Nat
  | 0, _ => 0
  | d + 1, o => maxL (o.kids.map (depthD d)) + 1
def headW (id : Nat) (p : B × B) : Wr := if id = 48 then bothW (text p.1) (text p.2) else if id = 0 then text p.2 else .ok []
def headR (id : Nat) (b : B) : Res (B × B) := if id = 48 then bothR getText getText b else if id = 0 then (match getText b with
  | .error e => .error e
  | .ok (x, r) => .ok (([], x), r)) else .ok (([], []), b)
def headN (id : Nat) (p : B × B) : B × B := if id = 48 then p else if id = 0 then ([], p.2) else ([], [])
def cntW (id n : Nat) : B := if 48 ≤ id then enc 2 n else []
def cntR (id : Nat) (b : B) : Res Nat := if kn id < 0 then getN 2 b else .ok ((kn id).toNat, b)
def nameW (id : Nat) (s : B) : Wr := if id = 48 then text s else .ok []
def nameR (id : Nat) (b : B) : Res B := if id = 48 then getText b else .ok ([], b)
def nameN (id : Nat) (s : B) : B := if id = 48 then s else []
def kidW (f : Opt → Wr) (id : Nat) (p : B × Opt) : Wr := bothW (nameW id p.1) (f p.2)
def kidR (g : B → Res Opt) (id : Nat) : B → Res (B × Opt) := bothR (nameR id) g
def kidsO (o : Opt) : List (B × Opt) := if o.id = 48 then o.names.zip o.kids else o.kids.map fun k => ([], k)
/-- a type's bytes -/
def putD : Nat → Opt → Wr
  | 0, _ => .error 1
  | d + 1, o => if ownO o = false then .error 1 else match headW o.id (o.space, o.name) with
    | .error e => .error e
    | .ok h => if 48 ≤ o.id ∧ 65535 < o.kids.length then .error 12 else match putsM (kidW (putD d) o.id) (kidsO o) with
      | .error e => .error e
      | .ok r => .ok (enc 2 o.id ++ (h ++ (cntW o.id o.kids.length ++ r)))
def mkO (id : Nat) (h : B × B) (l : List (B × Opt)) : Opt := ⟨id, h.1, h.2, if id = 48 then l.map (·.1) else [], l.map (·.2)⟩
/-- a type, of so many levels -/
def getO : Nat → B → Res Opt
  | 0, _ => .error 13
  | n + 1, b => match getN 2 b with
    | .error e => .error e
    | .ok (id, r) => if kn id = -2 then .error 11 else match headR id r with
      | .error e => .error e
      | .ok (h, r1) => match cntR id r1 with
        | .error e => .error e
        | .ok (m, r2) => match getsM (kidR (getO n) id) m r2 with
          | .error e => .error e
          | .ok (l, r3) => .ok (mkO id h l, r3)
/-- as what a type is got that was put -/
def normD : Nat → Opt → Opt
  | 0, o => o
  | d + 1, o => mkO o.id (headN o.id (o.space, o.name)) ((kidsO o).map fun p => (nameN o.id p.1, normD d p.2))

theorem kidsO_len {o : Opt} (h : ownO o = true) : (kidsO o).length = o.kids.length := by
  unfold ownO at h
  have h := of_decide_eq_true h
  unfold kidsO
  split
  · rename_i h1
    rw [if_pos h1] at h
    rw [List.length_zip]
    omega
  · simp
theorem kidsO_snd {o : Opt} (h : ownO o = true) : (kidsO o).map (·.2) = o.kids := by
  unfold ownO at h
  have h := of_decide_eq_true h
  unfold kidsO
  split
  · rename_i h1
    rw [if_pos h1] at h
    exact List.map_snd_zip (by omega)
  · simp [Function.comp_def]
theorem kidsO_mem {o : Opt} {p : B × Opt} (h : p ∈ kidsO o) : p.2 ∈ o.kids := by
  unfold kidsO at h
  split at h
  · exact (List.of_mem_zip (a := p.1) (b := p.2) h).2
  · obtain ⟨k, hk, rfl⟩ := List.mem_map.1 h; exact hk
theorem foldl_max_le : ∀ (l : List Nat) (a : Nat), a ≤ l.foldl max a ∧ (∀ x ∈ l, x ≤ l.foldl max a)
  | [], a => ⟨Nat.le_refl _, by simp⟩
  | y :: l, a => by
    obtain ⟨h1, h2⟩ := foldl_max_le l (max a y)
    simp only [List.foldl_cons]
    refine ⟨by omega, fun x hx => ?_⟩
    rcases List.mem_cons.1 hx with rfl | hx
    · omega
    · exact h2 x hx
theorem foldl_max_bd {M : Nat} : ∀ (l : List Nat) (a : Nat), a ≤ M → (∀ x ∈ l, x ≤ M) → l.foldl max a ≤ M
  | [], a, h, _ => h
  | y :: l, a, h, hl => by
    simp only [List.foldl_cons]
    have := hl y (by simp)
    exact foldl_max_bd l (max a y) (by omega) fun x hx => hl x (by simp [hx])
theorem maxL_mem {l : List Nat} {x : Nat} (h : x ∈ l) : x ≤ maxL l := (foldl_max_le l 0).2 x h
theorem maxL_bd {l : List Nat} {M : Nat} (h : ∀ x ∈ l, x ≤ M) : maxL l ≤ M := foldl_max_bd l 0 (by omega) h
theorem maxL_snoc (l : List Nat) (x : Nat) : maxL (l ++ [x]) = max (maxL l) x := by unfold maxL; rw [List.foldl_append]; rfl
theorem depthD_kid {d : Nat} {o : Opt} {k : Opt} (h : k ∈ o.kids) : depthD d k + 1 ≤ depthD (d + 1) o := by
  have := maxL_mem (List.mem_map.2 ⟨k, h, rfl⟩ : depthD d k ∈ o.kids.map (depthD d))
  simp only [depthD]
  omega
theorem sum_mem {l : List Nat} {x : Nat} (h : x ∈ l) : x ≤ l.sum := by
  induction l with
  | nil => cases h
  | cons y l ih =>
    rcases List.mem_cons.1 h with rfl | h
    · simp
    · have := ih h; simp; omega
theorem nD_kid {d : Nat} {o : Opt} {k : Opt} (h : k ∈ o.kids) : nD d k + 1 ≤ nD (d + 1) o := by
  have := sum_mem (List.mem_map.2 ⟨k, h, rfl⟩ : nD d k ∈ o.kids.map (nD d))
  simp only [nD]
  omega
theorem nD_pos (d : Nat) (o : Opt) : 1 ≤ nD d o := by cases d <;> simp [nD]
theorem depthD_nD : ∀ (d : Nat) (o : Opt), depthD d o ≤ nD d o
  | 0, o => by simp [depthD]
  | d + 1, o => by
    have : maxL (o.kids.map (depthD d)) ≤ (o.kids.map (nD d)).sum := maxL_bd fun x hx => by
      obtain ⟨k, hk, rfl⟩ := List.mem_map.1 hx
      exact Nat.le_trans (depthD_nD d k) (sum_mem (List.mem_map.2 ⟨k, hk, rfl⟩))
    simp only [depthD, nD]
    omega
theorem depthD_le : ∀ (d : Nat) (o : Opt), depthD d o ≤ d
  | 0, o => by simp [depthD]
  | d + 1, o => by
    have : maxL (o.kids.map (depthD d)) ≤ d := maxL_bd fun x hx => by
      obtain ⟨k, hk, rfl⟩ := List.mem_map.1 hx
      exact depthD_le d k
    simp only [depthD]
    omega

/-! what a put type is made of -/
theorem putD_parts {d : Nat} {o : Opt} {b : B} (h : putD d o = .ok b) : ∃ n, d = n + 1 ∧ ownO o = true ∧ ∃ x r, headW o.id (o.space, o.name) = .ok x ∧ ¬ (48 ≤ o.id ∧ 65535 < o.kids.length) ∧ putsM (kidW (putD n) o.id) (kidsO o) = .ok r ∧ b = enc 2 o.id ++ (x ++ (cntW o.id o.kids.length ++ r)) := by
  cases d with
  | zero => cases h
  | succ d =>
    simp only [putD] at h
    by_cases h1 : ownO o = false
    · rw [if_pos h1] at h; cases h
    · rw [if_neg h1] at h
      cases h2 : headW o.id (o.space, o.name) with
      | error e => rw [h2] at h; cases h
      | ok x =>
        rw [h2] at h
        simp only at h
        by_cases h3 : 48 ≤ o.id ∧ 65535 < o.kids.length
        · rw [if_pos h3] at h; cases h
        · rw [if_neg h3] at h
          cases h4 : putsM (kidW (putD d) o.id) (kidsO o) with
          | error e => rw [h4] at h; cases h
          | ok r => rw [h4] at h; injection h with h; exact ⟨d, rfl, by simpa using h1, x, r, rfl, h3, h4, h.symm⟩
theorem head_back (id : Nat) : Back (fun _ => True) (headW id) (headR id) (headN id) := by
  intro p b r _ h
  unfold headW at h
  unfold headR headN
  by_cases h1 : id = 48
  · rw [if_pos h1] at h ⊢
    rw [if_pos h1]
    exact both_back (text_back fun _ => True) (text_back fun _ => True) p b r ⟨trivial, trivial⟩ h
  · rw [if_neg h1] at h ⊢
    rw [if_neg h1]
    by_cases h2 : id = 0
    · rw [if_pos h2] at h ⊢
      rw [if_pos h2, text_back (fun _ => True) _ _ r trivial h]
      rfl
    · rw [if_neg h2] at h ⊢
      rw [if_neg h2]
      injection h with h
      subst h
      rfl
theorem head_cut (id : Nat) : Cut (fun _ => True) (headW id) (headR id) := by
  intro p b k _ h hk
  unfold headW at h
  unfold headR
  by_cases h1 : id = 48
  · rw [if_pos h1] at h ⊢
    exact both_cut (text_back fun _ => True) (text_cut fun _ => True) (text_cut fun _ => True) p b k ⟨trivial, trivial⟩ h hk
  · rw [if_neg h1] at h ⊢
    by_cases h2 : id = 0
    · rw [if_pos h2] at h ⊢
      rw [text_cut (fun _ => True) _ _ k trivial h hk]
    · rw [if_neg h2] at h
      injection h with h
      subst h
      simp at hk
theorem name_back (id : Nat) : Back (fun _ => True) (nameW id) (nameR id) (nameN id) := by
  intro p b r _ h
  unfold nameW at h
  unfold nameR nameN
  by_cases h1 : id = 48
  · rw [if_pos h1] at h ⊢
    rw [if_pos h1]
    exact text_back (fun _ => True) p b r trivial h
  · rw [if_neg h1] at h ⊢
    rw [if_neg h1]
    injection h with h
    subst h
    rfl
theorem name_cut (id : Nat) : Cut (fun _ => True) (nameW id) (nameR id) := by
  intro p b k _ h hk
  unfold nameW at h
  unfold nameR
  by_cases h1 : id = 48
  · rw [if_pos h1] at h ⊢
    exact text_cut (fun _ => True) p b k trivial h hk
  · rw [if_neg h1] at h
    injection h with h
    subst h
    simp at hk
theorem cnt_back {o : Opt} {r : B} (ho : ownO o = true) (hl : ¬ (48 ≤ o.id ∧ 65535 < o.kids.length)) : cntR o.id (cntW o.id o.kids.length ++ r) = .ok (o.kids.length, r) := by
  unfold ownO at ho
  have ho := of_decide_eq_true ho
  have hr := kn_range o.id
  unfold cntR cntW
  by_cases h1 : kn o.id < 0
  · have h2 := kn_many (id := o.id) (by omega)
    rw [if_pos h1, if_pos (by omega), getN_back (by simp; omega)]
  · have h2 : ¬ 48 ≤ o.id := by
      intro h2
      have h3 := h1
      unfold kn at h3
      have : ¬ (o.id = 0 ∨ isPlain o.id = true) := by simp [isPlain]; omega
      rw [if_neg this, if_neg (by omega), if_neg (by omega)] at h3
      split at h3 <;> omega
    rw [if_neg h1, if_neg h2, List.nil_append, ← ho.2.1 (by omega)]
    rfl
theorem own_id {o : Opt} (h : ownO o = true) : kn o.id ≠ -2 := by
  unfold ownO at h
  exact (of_decide_eq_true h).1
theorem kn_lt {id : Nat} (h : kn id ≠ -2) : id < 50 := by
  unfold kn at h
  by_cases h1 : id = 0 ∨ isPlain id = true
  · simp [isPlain] at h1; omega
  · rw [if_neg h1] at h
    by_cases h2 : id = 32 ∨ id = 34
    · omega
    · rw [if_neg h2] at h
      by_cases h3 : id = 33
      · omega
      · rw [if_neg h3] at h
        by_cases h4 : id = 48 ∨ id = 49
        · omega
        · rw [if_neg h4] at h; omega
/-- what is put is got -/
theorem getO_back : ∀ (n d : Nat), Back (fun o => depthD d o ≤ n) (putD d) (getO n) (normD d)
  | n, 0 => fun o b r _ h => by cases h
  | 0, d + 1 => fun o b r hd h => by simp [depthD] at hd
  | n + 1, d + 1 => fun o b r hd h => by
    obtain ⟨m, hm, ho, x, y, h1, h2, h3, rfl⟩ := putD_parts h
    injection hm with hm
    subst hm
    have hk : Back (fun p : B × Opt => True ∧ depthD d p.2 ≤ n) (kidW (putD d) o.id) (kidR (getO n) o.id) (fun p => (nameN o.id p.1, normD d p.2)) := both_back (name_back o.id) (getO_back n d)
    have hg := putsM_back hk (kidsO o) y r (fun p hp => ⟨trivial, by have := depthD_kid (d := d) (kidsO_mem hp); omega⟩) h3
    rw [kidsO_len ho] at hg
    simp only [getO]
    rw [List.append_assoc, getN_back (by have := kn_lt (own_id ho); simp; omega)]
    simp only
    rw [if_neg (own_id ho), List.append_assoc, head_back o.id _ _ _ trivial h1]
    simp only
    rw [List.append_assoc, cnt_back ho h2]
    simp only
    rw [hg]
    rfl
/-- what is put, cut anywhere, ends too early -/
theorem getO_cut : ∀ (n d : Nat), Cut (fun o => depthD d o ≤ n) (putD d) (getO n)
  | n, 0 => fun o b k _ h => by cases h
  | 0, d + 1 => fun o b r hd h => by simp [depthD] at hd
  | n + 1, d + 1 => fun o b k hd h hk0 => by
    obtain ⟨m, hm, ho, x, y, h1, h2, h3, rfl⟩ := putD_parts h
    injection hm with hm
    subst hm
    have hkb : Back (fun p : B × Opt => True ∧ depthD d p.2 ≤ n) (kidW (putD d) o.id) (kidR (getO n) o.id) (fun p => (nameN o.id p.1, normD d p.2)) := both_back (name_back o.id) (getO_back n d)
    have hkc : Cut (fun p : B × Opt => True ∧ depthD d p.2 ≤ n) (kidW (putD d) o.id) (kidR (getO n) o.id) := both_cut (name_back o.id) (name_cut o.id) (getO_cut n d)
    have hid := kn_lt (own_id ho)
    simp only [getO]
    rw [List.length_append, List.length_append, List.length_append, enc_length] at hk0
    by_cases c1 : k < 2
    · rw [take_app_lt (by rw [enc_length]; omega), getN_cut (by rw [List.length_take, enc_length]; omega)]
    · rw [take_app_ge (by rw [enc_length]; omega), enc_length, getN_back (by simp; omega)]
      simp only
      rw [if_neg (own_id ho)]
      by_cases c2 : k - 2 < x.length
      · rw [take_app_lt c2, head_cut o.id _ _ _ trivial h1 c2]
      · rw [take_app_ge c2, head_back o.id _ _ _ trivial h1]
        simp only
        by_cases c3 : k - 2 - x.length < (cntW o.id o.kids.length).length
        · have c4 : 48 ≤ o.id := by
            unfold cntW at c3
            split at c3
            · assumption
            · simp at c3
          have c5 : kn o.id < 0 := by
            have : ¬ (o.id = 0 ∨ isPlain o.id = true) := by simp [isPlain]; omega
            have h5 := own_id ho
            unfold kn at h5 ⊢
            rw [if_neg this, if_neg (by omega), if_neg (by omega)] at h5 ⊢
            split <;> omega
          have c6 : (cntW o.id o.kids.length).length = 2 := by unfold cntW; rw [if_pos c4, enc_length]
          rw [take_app_lt c3]
          unfold cntR
          rw [if_pos c5, getN_cut (by rw [List.length_take]; omega)]
        · rw [take_app_ge c3, cnt_back ho h2]
          simp only
          have hg := putsM_cut hkb hkc (kidsO o) y (k - 2 - x.length - (cntW o.id o.kids.length).length) (fun p hp => ⟨trivial, by have := depthD_kid (d := d) (kidsO_mem hp); omega⟩) h3 (by omega)
          rw [kidsO_len ho] at hg
          rw [hg]
theorem getO_cut' {n d : Nat} {o : Opt} {b : B} {k : Nat} (hd : depthD d o ≤ n) (h : putD d o = .ok b) (hk : k < b.length) : getO n (b.take k) = .error 10 := getO_cut n d o b k hd h hk

/-! what is got is put as it was -/
theorem head_fore (id : Nat) : Fore (headW id) (headR id) := by
  intro b p r h
  unfold headR at h
  unfold headW
  by_cases h1 : id = 48
  · rw [if_pos h1] at h ⊢
    exact both_fore text_fore text_fore b p r h
  · rw [if_neg h1] at h ⊢
    by_cases h2 : id = 0
    · rw [if_pos h2] at h ⊢
      cases h3 : getText b with
      | error e => rw [h3] at h; cases h
      | ok q =>
        rw [h3] at h
        injection h with h
        injection h with h4 h5
        subst h4 h5
        exact text_fore b _ _ h3
    · rw [if_neg h2] at h ⊢
      injection h with h
      injection h with h4 h5
      subst h4 h5
      exact ⟨[], rfl, rfl⟩
theorem name_fore (id : Nat) : Fore (nameW id) (nameR id) := by
  intro b p r h
  unfold nameR at h
  unfold nameW
  by_cases h1 : id = 48
  · rw [if_pos h1] at h ⊢
    exact text_fore b p r h
  · rw [if_neg h1] at h ⊢
    injection h with h
    injection h with h4 h5
    subst h4 h5
    exact ⟨[], rfl, rfl⟩
theorem getO_parts {n : Nat} {b : B} {o : Opt} {r3 : B} (h : getO n b = .ok (o, r3)) : ∃ m, n = m + 1 ∧ ∃ id r hd r1 k r2 l, getN 2 b = .ok (id, r) ∧ kn id ≠ -2 ∧ headR id r = .ok (hd, r1) ∧ cntR id r1 = .ok (k, r2) ∧ getsM (kidR (getO m) id) k r2 = .ok (l, r3) ∧ o = mkO id hd l := by
  cases n with
  | zero => cases h
  | succ n =>
    simp only [getO] at h
    cases h1 : getN 2 b with
    | error e => rw [h1] at h; cases h
    | ok p =>
      obtain ⟨id, r⟩ := p
      rw [h1] at h
      simp only at h
      by_cases h2 : kn id = -2
      · rw [if_pos h2] at h; cases h
      · rw [if_neg h2] at h
        cases h3 : headR id r with
        | error e => rw [h3] at h; cases h
        | ok p =>
          obtain ⟨hd, r1⟩ := p
          rw [h3] at h
          simp only at h
          cases h4 : cntR id r1 with
          | error e => rw [h4] at h; cases h
          | ok p =>
            obtain ⟨k, r2⟩ := p
            rw [h4] at h
            simp only at h
            cases h5 : getsM (kidR (getO n) id) k r2 with
            | error e => rw [h5] at h; cases h
            | ok p =>
              obtain ⟨l, r4⟩ := p
              rw [h5] at h
              injection h with h
              injection h with h6 h7
              subst h7
              exact ⟨n, rfl, id, r, hd, r1, k, r2, l, rfl, h2, h3, h4, h5, h6.symm⟩
theorem mkO_kids (id : Nat) (hd : B × B) (l : List (B × Opt)) : (mkO id hd l).kids.length = l.length := by simp [mkO]
theorem mkO_kidsO {id : Nat} {hd : B × B} {l : List (B × Opt)} (hn : ∀ p ∈ l, id ≠ 48 → p.1 = []) : kidsO (mkO id hd l) = l := by
  unfold kidsO mkO
  by_cases h : id = 48
  · simp only [if_pos h]
    induction l with
    | nil => rfl
    | cons p l ih => simp only [List.map_cons, List.zip_cons_cons]; rw [ih fun q hq => hn q (by simp [hq])]
  · simp only [if_neg h]
    induction l with
    | nil => rfl
    | cons p l ih =>
      simp only [List.map_cons]
      rw [ih fun q hq => hn q (by simp [hq]), ← hn p (by simp) h]
theorem cntR_fore {id : Nat} {b : B} {k : Nat} {r : B} (hid : kn id ≠ -2) (h : cntR id b = .ok (k, r)) : cntW id k ++ r = b ∧ (48 ≤ id → k ≤ 65535) ∧ (0 ≤ kn id → (k : Int) = kn id) := by
  unfold cntR at h
  have hr := kn_range id
  by_cases h1 : kn id < 0
  · have h2 := kn_many (id := id) (by omega)
    rw [if_pos h1] at h
    have h3 := getN_ok h
    have h4 := h3.2.2.2
    simp at h4
    refine ⟨?_, fun _ => by omega, fun h => by omega⟩
    unfold cntW
    rw [if_pos (by omega)]
    exact getN_fore h
  · rw [if_neg h1] at h
    injection h with h
    injection h with h3 h4
    subst h3 h4
    have h2 : ¬ 48 ≤ id := by
      intro h2
      unfold kn at h1
      have : ¬ (id = 0 ∨ isPlain id = true) := by simp [isPlain]; omega
      rw [if_neg this, if_neg (by omega), if_neg (by omega)] at h1
      unfold kn at hid
      rw [if_neg this, if_neg (by omega), if_neg (by omega)] at hid
      split at h1 <;> omega
    refine ⟨?_, fun h => absurd h h2, fun h => by omega⟩
    unfold cntW
    rw [if_neg h2]
    rfl
theorem kidR_nm {g : B → Res Opt} {id : Nat} : ∀ {k : Nat} {b : B} {l : List (B × Opt)} {r : B}, getsM (kidR g id) k b = .ok (l, r) → ∀ p ∈ l, id ≠ 48 → p.1 = []
  | 0, b, l, r, h, p, hp, hid => by injection h with h; injection h with h1; subst h1; cases hp
  | k + 1, b, l, r, h, p, hp, hid => by
    simp only [getsM] at h
    cases h1 : kidR g id b with
    | error e => rw [h1] at h; cases h
    | ok q =>
      obtain ⟨x, r1⟩ := q
      rw [h1] at h
      simp only at h
      cases h2 : getsM (kidR g id) k r1 with
      | error e => rw [h2] at h; cases h
      | ok q2 =>
        obtain ⟨l2, r2⟩ := q2
        rw [h2] at h
        injection h with h
        injection h with h3 h4
        subst h3
        rcases List.mem_cons.1 hp with rfl | hp
        · unfold kidR bothR nameR at h1
          rw [if_neg hid] at h1
          simp only at h1
          cases h5 : g b with
          | error e => rw [h5] at h1; cases h1
          | ok q => rw [h5] at h1; injection h1 with h1; injection h1 with h1; rw [← h1]
        · exact kidR_nm h2 p hp hid
theorem own_mkO {id : Nat} {hd : B × B} {l : List (B × Opt)} (hid : kn id ≠ -2) (hk : 0 ≤ kn id → (l.length : Int) = kn id) : ownO (mkO id hd l) = true := by
  unfold ownO mkO
  refine decide_eq_true ⟨hid, ?_, ?_⟩
  · simpa using hk
  · by_cases h : id = 48 <;> simp [h]
theorem getO_fore : ∀ n : Nat, Fore (putD n) (getO n)
  | 0 => fun b o r h => by cases h
  | n + 1 => fun b o r3 h => by
    obtain ⟨m, hm, id, r, hd, r1, k, r2, l, h1, h2, h3, h4, h5, rfl⟩ := getO_parts h
    injection hm with hm
    subst hm
    have F : Fore (kidW (putD n) id) (kidR (getO n) id) := both_fore (name_fore id) (getO_fore n)
    obtain ⟨hl, y, h6, h7⟩ := getsM_fore F k r2 l r3 h5
    obtain ⟨c1, c2, c3⟩ := cntR_fore h2 h4
    obtain ⟨x, h8, h9⟩ := head_fore id _ _ _ h3
    have h10 := getN_fore h1
    have hko : kidsO (mkO id hd l) = l := mkO_kidsO (kidR_nm h5)
    refine ⟨enc 2 id ++ (x ++ (cntW id k ++ y)), ?_, by rw [List.append_assoc, List.append_assoc, List.append_assoc, h7, c1, h9, h10]⟩
    have hown : ownO (mkO id hd l) = true := own_mkO h2 (fun h => by rw [hl]; exact c3 h)
    simp only [putD]
    rw [if_neg (by rw [hown]; decide), hko]
    have e1 : (mkO id hd l).id = id := rfl
    have e2 : ((mkO id hd l).space, (mkO id hd l).name) = hd := rfl
    rw [e1, e2, h8]
    simp only
    rw [if_neg (by rw [mkO_kids]; omega), h6, mkO_kids, hl]
/-- a type that was put, as it is got, is put as it was -/
theorem norm_put : ∀ (n d : Nat) (o : Opt) (b : B), depthD d o ≤ n → putD d o = .ok b → putD n (normD d o) = .ok b := fun n d o b hd h => by
  have h1 := getO_back n d o b [] hd h
  obtain ⟨y, h2, h3⟩ := getO_fore n _ _ _ h1
  rw [List.append_nil, List.append_nil] at h3
  rw [h2, h3]
theorem normD_id {d : Nat} {o : Opt} {b : B} (h : putD d o = .ok b) : (normD d o).id = o.id ∧ (normD d o).kids.length = o.kids.length := by
  obtain ⟨n, rfl, ho, x, r, _⟩ := putD_parts h
  exact ⟨rfl, by simp [normD, mkO_kids, kidsO_len ho]⟩
theorem headW_ne {id : Nat} {p : B × B} {e : Int} (h : headW id p = .error e) : e ≠ 0 := by
  unfold headW at h
  split at h
  · exact bothW_ne (fun _ => text_ne) (fun _ => text_ne) h
  · split at h
    · exact text_ne h
    · cases h
theorem putsM_ne {α : Type} {f : α → Wr} : ∀ {l : List α} {e : Int}, (∀ x ∈ l, ∀ e, f x = .error e → e ≠ 0) → putsM f l = .error e → e ≠ 0
  | [], e, _, h => by cases h
  | x :: l, e, hf, h => by
    simp only [putsM] at h
    cases h1 : f x with
    | error e1 => rw [h1] at h; injection h with h; subst h; exact hf x (by simp) _ h1
    | ok b =>
      rw [h1] at h
      simp only at h
      cases h2 : putsM f l with
      | error e1 => rw [h2] at h; injection h with h; subst h; exact putsM_ne (fun y hy => hf y (by simp [hy])) h2
      | ok r => rw [h2] at h; cases h
theorem nameW_ne {id : Nat} {s : B} {e : Int} (h : nameW id s = .error e) : e ≠ 0 := by
  unfold nameW at h
  split at h
  · exact text_ne h
  · cases h
theorem putD_ne : ∀ {d : Nat} {o : Opt} {e : Int}, putD d o = .error e → e ≠ 0
  | 0, o, e, h => by injection h with h; omega
  | d + 1, o, e, h => by
    simp only [putD] at h
    split at h
    · injection h with h; omega
    · cases h2 : headW o.id (o.space, o.name) with
      | error e1 => rw [h2] at h; injection h with h; subst h; exact headW_ne h2
      | ok x =>
        rw [h2] at h
        simp only at h
        split at h
        · injection h with h; omega
        · cases h3 : putsM (kidW (putD d) o.id) (kidsO o) with
          | error e1 => rw [h3] at h; injection h with h; subst h; exact putsM_ne (fun p _ e h => bothW_ne (fun _ => nameW_ne) (fun _ => putD_ne) h) h3
          | ok r => rw [h3] at h; cases h
/-! how long -/
theorem nameW_len {id : Nat} {s b : B} (h : nameW id s = .ok b) : b.length ≤ 65537 := by
  unfold nameW at h
  split at h
  · exact (text_len h).1
  · injection h with h; subst h; simp
theorem headW_len {id : Nat} {p : B × B} {b : B} (h : headW id p = .ok b) : b.length ≤ 131074 := by
  unfold headW at h
  split at h
  · obtain ⟨x, y, h1, h2, rfl⟩ := bothW_ok h
    have := (text_len h1).1
    have := (text_len h2).1
    rw [List.length_append]
    omega
  · split at h
    · have := (text_len h).1; omega
    · injection h with h; subst h; simp
theorem cntW_len (id n : Nat) : (cntW id n).length ≤ 2 := by unfold cntW; split <;> simp [enc_length]
theorem putsM_sum {α : Type} {f : α → Wr} {g : α → Nat} : ∀ {l : List α} {r : B}, (∀ x ∈ l, ∀ b, f x = .ok b → b.length ≤ g x) → putsM f l = .ok r → r.length ≤ (l.map g).sum
  | [], r, _, h => by injection h with h; subst h; simp
  | x :: l, r, hM, h => by
    simp only [putsM] at h
    cases hx : f x with
    | error e => rw [hx] at h; cases h
    | ok b =>
      rw [hx] at h
      simp only at h
      cases hl : putsM f l with
      | error e => rw [hl] at h; cases h
      | ok r2 =>
        rw [hl] at h
        injection h with h
        subst h
        have h1 := hM x (by simp) b hx
        have h2 := putsM_sum (fun y hy => hM y (by simp [hy])) hl
        rw [List.length_append, List.map_cons, List.sum_cons]
        omega
theorem sum_mul (l : List Nat) (c : Nat) : (l.map fun x => c * x).sum = c * l.sum := by
  induction l with
  | nil => simp
  | cons x l ih => simp [ih, Nat.mul_add]
theorem putD_len' : ∀ {d : Nat} {o : Opt} {b : B}, putD d o = .ok b → b.length + 65537 ≤ 200000 * nD d o
  | 0, o, b, h => by cases h
  | d + 1, o, b, h => by
    obtain ⟨m, hm, ho, x, y, h1, h2, h3, rfl⟩ := putD_parts h
    injection hm with hm
    subst hm
    have hx := headW_len h1
    have hc := cntW_len o.id o.kids.length
    have hy := putsM_sum (g := fun p : B × Opt => 200000 * nD d p.2) (fun p _ b hb => by
      obtain ⟨u, v, h4, h5, rfl⟩ := bothW_ok hb
      have := nameW_len h4
      have := putD_len' h5
      rw [List.length_append]
      omega) h3
    have e2 : ((kidsO o).map fun p : B × Opt => 200000 * nD d p.2).sum = 200000 * (o.kids.map (nD d)).sum := by
      rw [← kidsO_snd ho, List.map_map, ← sum_mul, List.map_map]
      rfl
    rw [e2] at hy
    simp only [nD]
    rw [List.length_append, List.length_append, List.length_append, enc_length]
    omega
theorem putD_len {d : Nat} {o : Opt} {b : B} (h : putD d o = .ok b) : b.length ≤ 200000 * nD d o := by
  have := putD_len' h
  omega
/-- what is got has no more types than bytes -/
theorem getsM_sum {α : Type} {f : B → Res α} {g : α → Nat} (hf : ∀ b x r, f b = .ok (x, r) → g x + r.length ≤ b.length) : ∀ {k : Nat} {b : B} {l : List α} {r : B}, getsM f k b = .ok (l, r) → (l.map g).sum + r.length ≤ b.length
  | 0, b, l, r, h => by injection h with h; injection h with h1 h2; subst h1 h2; simp
  | k + 1, b, l, r, h => by
    simp only [getsM] at h
    cases h1 : f b with
    | error e => rw [h1] at h; cases h
    | ok q =>
      obtain ⟨x, r1⟩ := q
      rw [h1] at h
      simp only at h
      cases h2 : getsM f k r1 with
      | error e => rw [h2] at h; cases h
      | ok q2 =>
        obtain ⟨l2, r2⟩ := q2
        rw [h2] at h
        injection h with h
        injection h with h3 h4
        subst h3 h4
        have := hf _ _ _ h1
        have := getsM_sum hf h2
        simp only [List.map_cons, List.sum_cons]
        omega
theorem getO_n : ∀ {n : Nat} {b : B} {o : Opt} {r : B}, getO n b = .ok (o, r) → nD n o + r.length ≤ b.length
  | 0, b, o, r, h => by cases h
  | n + 1, b, o, r3, h => by
    obtain ⟨m, hm, id, r, hd, r1, k, r2, l, h1, h2, h3, h4, h5, rfl⟩ := getO_parts h
    injection hm with hm
    subst hm
    have a1 := getN_ok h1
    have a2 : r1.length ≤ r.length := by
      obtain ⟨y, _, e⟩ := head_fore id _ _ _ h3
      have := congrArg List.length e
      rw [List.length_append] at this
      omega
    have a3 : r2.length ≤ r1.length := by
      have e := (cntR_fore h2 h4).1
      have := congrArg List.length e
      rw [List.length_append] at this
      omega
    have a4 := getsM_sum (g := fun p : B × Opt => nD n p.2) (fun b x r hx => by
      unfold kidR bothR at hx
      cases e1 : nameR id b with
      | error e => rw [e1] at hx; cases hx
      | ok q =>
        obtain ⟨s, t⟩ := q
        rw [e1] at hx
        simp only at hx
        cases e2 : getO n t with
        | error e => rw [e2] at hx; cases hx
        | ok q2 =>
          obtain ⟨y, z⟩ := q2
          rw [e2] at hx
          injection hx with hx
          injection hx with e3 e4
          subst e3 e4
          have b1 := getO_n e2
          obtain ⟨y, _, e⟩ := name_fore id _ _ _ e1
          have := congrArg List.length e
          rw [List.length_append] at this
          simp only
          omega) h5
    have a5 : r.length + 2 = b.length := by rw [a1.2.2.1, List.length_drop]; omega
    simp only [nD, mkO, List.map_map]
    have : (l.map (nD n ∘ fun x => x.2)).sum = (l.map fun p : B × Opt => nD n p.2).sum := rfl
    omega
end Sb

/- Plain mathematics of types of values (layer 4): their texts, how few, whether they are as they may be; no program in sight. No conditions. -/
namespace Sb

def sepB : B := [44, 32]
/-- texts one behind the other, parted by a comma and a space -/
def joinB : List B → B
  | [] => []
  | x :: l => x ++ l.flatMap fun y => sepB ++ y
theorem joinB_snoc (l : List B) (x : B) (h : l ≠ []) : joinB (l ++ [x]) = joinB l ++ sepB ++ x := by
  cases l with
  | nil => exact absurd rfl h
  | cons y l => simp [joinB, List.flatMap_append]
theorem joinB_take {l : List B} {k : Nat} {x : B} (hx : l[k]? = some x) : joinB (l.take (k + 1)) = joinB (l.take k) ++ ((if 0 < k then sepB else []) ++ x) := by
  obtain ⟨hk, rfl⟩ := List.getElem?_eq_some_iff.1 hx
  rw [List.take_succ_eq_append_getElem hk]
  by_cases h : 0 < k
  · rw [if_pos h, joinB_snoc _ _ (by intro e; have := congrArg List.length e; rw [List.length_take, List.length_nil] at this; omega), List.append_assoc]
  · have : k = 0 := by omega
    subst this
    simp [joinB]
def wList : B := [108, 105, 115, 116]
def wMap : B := [109, 97, 112]
def wSet : B := [115, 101, 116]
def wTuple : B := [116, 117, 112, 108, 101]
/-- a type's text -/
def tellD : Nat → Opt → B
  | 0, _ => []
  | d + 1, o =>
    if o.id = 0 then [39] ++ o.name ++ [39] else if o.id = 48 then o.space ++ [46] ++ o.name
    else if o.id = 32 then wList ++ [60] ++ joinB (o.kids.map (tellD d)) ++ [62]
    else if o.id = 33 then wMap ++ [60] ++ joinB (o.kids.map (tellD d)) ++ [62]
    else if o.id = 34 then wSet ++ [60] ++ joinB (o.kids.map (tellD d)) ++ [62]
    else if o.id = 49 then wTuple ++ [60] ++ joinB (o.kids.map (tellD d)) ++ [62]
    else nameB o.id
def mayD : Nat → Opt → Bool
  | 0, _ => false
  | d + 1, o => ownO o && o.kids.all (mayD d)
/-- a type's text, or an error's number -/
def textW (d : Nat) (o : Opt) : Wr := if 20 < depthD d o then .error 13 else if mayD d o = false then .error 1 else .ok (tellD d o)
/-- a type's bytes, or an error's number -/
def putW (d : Nat) (o : Opt) : Wr := if 20 < depthD d o then .error 13 else putD d o
def capD (M : Nat) : Nat → Opt → Prop
  | 0, _ => True
  | d + 1, o => o.space.length ≤ M ∧ o.name.length ≤ M ∧ ∀ k ∈ o.kids, capD M d k
theorem nameB_len (id : Nat) : (nameB id).length ≤ 9 := by
  by_cases h : id < 21
  · have : ∀ i : Fin 21, (nameB i).length ≤ 9 := by decide +kernel
    exact this ⟨id, h⟩
  · unfold nameB
    rw [List.getElem?_eq_none (by simp [plainNames]; omega)]
    simp
theorem joinB_len {M : Nat} {g : Opt → B} {h : Opt → Nat} : ∀ l : List Opt, (∀ k ∈ l, (g k).length + 2 ≤ h k * M) → (joinB (l.map g)).length ≤ (l.map h).sum * M
  | [], _ => by simp [joinB]
  | x :: l, hl => by
    have h1 := hl x (by simp)
    have h2 : ∀ l : List Opt, (∀ k ∈ l, (g k).length + 2 ≤ h k * M) → ((l.map g).flatMap fun y => sepB ++ y).length ≤ (l.map h).sum * M := by
      intro l
      induction l with
      | nil => simp
      | cons y l ih =>
        intro hl
        have h1 := hl y (by simp)
        have h2 := ih fun k hk => hl k (by simp [hk])
        simp only [List.map_cons, List.flatMap_cons, List.sum_cons, List.length_append, Nat.add_mul, sepB, List.length_cons, List.length_nil] at h2 ⊢
        omega
    have h3 := h2 l fun k hk => hl k (by simp [hk])
    simp only [List.map_cons, joinB, List.sum_cons, List.length_append, Nat.add_mul]
    omega
theorem tellD_len (M : Nat) : ∀ (d : Nat) (o : Opt), capD M d o → (tellD d o).length + 2 ≤ nD d o * (2 * M + 30)
  | 0, o, _ => by simp [tellD, nD]
  | d + 1, o, h => by
    have h1 := h.1
    have h2 := h.2.1
    have hj := joinB_len (M := 2 * M + 30) (g := tellD d) (h := nD d) o.kids fun k hk => tellD_len M d k (h.2.2 k hk)
    have hn := nameB_len o.id
    have e : nD (d + 1) o * (2 * M + 30) = 2 * M + 30 + (o.kids.map (nD d)).sum * (2 * M + 30) := by simp only [nD]; rw [Nat.add_mul]; omega
    rw [e]
    simp only [tellD]
    generalize joinB (o.kids.map (tellD d)) = j at hj
    generalize (o.kids.map (nD d)).sum * (2 * M + 30) = q at hj
    split
    · simp; omega
    · split
      · simp; omega
      · split
        · simp [wList]; omega
        · split
          · simp [wMap]; omega
          · split
            · simp [wSet]; omega
            · split
              · simp [wTuple]; omega
              · omega
theorem capD.mono {M M' : Nat} (hM : M ≤ M') : ∀ {d : Nat} {o : Opt}, capD M d o → capD M' d o
  | 0, _, _ => trivial
  | d + 1, o, h => ⟨Nat.le_trans h.1 hM, Nat.le_trans h.2.1 hM, fun k hk => capD.mono hM (h.2.2 k hk)⟩
/-- how many types, as the law reckons it -/
def sizeD : Nat → Opt → Nat
  | 0, _ => 1
  | d + 1, o => o.kids.foldl (fun n k => if n < 1000 then n + sizeD d k else n) 1
def fewD : Nat → Opt → Nat → Bool
  | 0, _, _ => false
  | d + 1, o, deep => decide (o.kids.length ≤ 10 ∧ o.names.length ≤ 20 ∧ deep ≤ 25) && (o.kids.all fun k => fewD d k (deep + 1)) && decide ((o.kids.map (sizeD d)).sum < 200)
theorem sum_le_of {α : Type} {g h : α → Nat} : ∀ {l : List α}, (∀ x ∈ l, g x = h x) → (l.map g).sum = (l.map h).sum
  | [], _ => rfl
  | x :: l, hl => by
    have h1 := hl x (by simp)
    have h2 := sum_le_of (l := l) fun y hy => hl y (List.mem_cons_of_mem _ hy)
    simp only [List.map_cons, List.sum_cons]
    rw [h1, h2]
theorem fold_size {g : Opt → Nat} : ∀ (l : List Opt) (a : Nat), a + (l.map g).sum ≤ 200 → l.foldl (fun n k => if n < 1000 then n + g k else n) a = a + (l.map g).sum
  | [], a, _ => by simp
  | x :: l, a, h => by
    simp only [List.map_cons, List.sum_cons] at h
    simp only [List.foldl_cons, List.map_cons, List.sum_cons]
    rw [if_pos (by omega), fold_size l (a + g x) (by omega)]
    omega
theorem few_size : ∀ {d : Nat} {o : Opt} {deep : Nat}, fewD d o deep = true → sizeD d o = nD d o ∧ nD d o ≤ 200
  | 0, _, _, h => by cases h
  | d + 1, o, deep, h => by
    simp only [fewD, Bool.and_eq_true, List.all_eq_true, decide_eq_true_eq] at h
    obtain ⟨⟨_, h2⟩, h3⟩ := h
    have h4 := sum_le_of (l := o.kids) (g := sizeD d) (h := nD d) fun k hk => (few_size (h2 k hk)).1
    simp only [sizeD, nD]
    rw [fold_size o.kids 1 (by omega), h4]
    omega
theorem few_kid {d : Nat} {o : Opt} {deep : Nat} (h : fewD (d + 1) o deep = true) {k : Opt} (hk : k ∈ o.kids) : fewD d k (deep + 1) = true := by
  simp only [fewD, Bool.and_eq_true, List.all_eq_true] at h
  exact h.1.2 k hk
end Sb
