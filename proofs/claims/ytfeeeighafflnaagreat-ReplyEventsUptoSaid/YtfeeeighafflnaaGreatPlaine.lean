/- Plain mathematics: what is put is got, with what is behind; what is cut ends too early; what is got is put as it was. No conditions. -/
import Derived.Test.YtfeeeighafflnaaGreatPlainc
set_option linter.unusedVariables false
set_option linter.unusedSimpArgs false
namespace Sb

theorem getN_back {n x : Nat} {r : B} (h : x < 256 ^ n) : getN n (enc n x ++ r) = .ok (x, r) := by
  unfold getN
  rw [if_neg (by rw [List.length_append, enc_length]; omega)]
  have h1 : (enc n x ++ r).take n = enc n x := by rw [List.take_append_of_le_length (by rw [enc_length]; omega), List.take_of_length_le (by rw [enc_length]; omega)]
  have h2 : (enc n x ++ r).drop n = r := by
    have := List.drop_append_of_le_length (l₁ := enc n x) (l₂ := r) (i := n) (by rw [enc_length]; omega)
    rw [this, List.drop_eq_nil_of_le (by rw [enc_length]; omega), List.nil_append]
  rw [h1, h2, be_enc, Nat.mod_eq_of_lt h]
theorem getN_cut {n : Nat} {b : B} (h : b.length < n) : getN n b = .error 10 := by unfold getN; rw [if_pos h]
theorem takeN_back {s r : B} : takeN s.length (s ++ r) = .ok (s, r) := by
  unfold takeN
  rw [if_neg (by rw [List.length_append]; omega), List.take_left, List.drop_left]
theorem takeN_cut {n : Nat} {b : B} (h : b.length < n) : takeN n b = .error 10 := by unfold takeN; rw [if_pos h]
theorem getN_fore {n : Nat} {b : B} {x : Nat} {r : B} (h : getN n b = .ok (x, r)) : enc n x ++ r = b := by
  obtain ⟨h1, h2, h3, _⟩ := getN_ok h
  have hl : (b.take n).length = n := by rw [List.length_take]; omega
  have := enc_be (b.take n)
  rw [hl, ← h2] at this
  rw [this, h3, List.take_append_drop]
theorem takeN_fore {n : Nat} {b x r : B} (h : takeN n b = .ok (x, r)) : x ++ r = b ∧ x.length = n := by
  obtain ⟨h1, h2, h3⟩ := takeN_ok h
  subst h2 h3
  exact ⟨List.take_append_drop _ _, by rw [List.length_take]; omega⟩
theorem take_app_lt {x y : B} {k : Nat} (h : k < x.length) : (x ++ y).take k = x.take k := List.take_append_of_le_length (by omega)
theorem take_app_ge {x y : B} {k : Nat} (h : ¬ k < x.length) : (x ++ y).take k = x ++ y.take (k - x.length) := by
  rw [List.take_append, List.take_of_length_le (by omega)]

/-- what f puts, g gets, with what is behind; h: as what it is got -/
def Back {α β : Type} (D : α → Prop) (f : α → Wr) (g : B → Res β) (h : α → β) : Prop := ∀ x b r, D x → f x = .ok b → g (b ++ r) = .ok (h x, r)
/-- what f puts, cut anywhere, ends too early -/
def Cut {α β : Type} (D : α → Prop) (f : α → Wr) (g : B → Res β) : Prop := ∀ x b k, D x → f x = .ok b → k < b.length → g (b.take k) = .error 10
/-- what g gets, f puts as it was -/
def Fore {α : Type} (f : α → Wr) (g : B → Res α) : Prop := ∀ b x r, g b = .ok (x, r) → ∃ y, f x = .ok y ∧ y ++ r = b
theorem Back.nil {α β : Type} {D : α → Prop} {f : α → Wr} {g : B → Res β} {h : α → β} (H : Back D f g h) {x : α} {b : B} (hx : D x) (hb : f x = .ok b) : g b = .ok (h x, []) := by
  have := H x b [] hx hb
  rwa [List.append_nil] at this

theorem text_back (D : B → Prop) : Back D text getText id := by
  intro s b r _ h
  obtain ⟨_, h2, rfl⟩ := text_len h
  unfold getText
  rw [List.append_assoc, getN_back (by simp; omega)]
  exact takeN_back
theorem text_cut (D : B → Prop) : Cut D text getText := by
  intro s b k _ h hk
  obtain ⟨_, h2, rfl⟩ := text_len h
  rw [List.length_append, enc_length] at hk
  unfold getText
  by_cases h3 : k < 2
  · rw [take_app_lt (by rw [enc_length]; omega), getN_cut (by rw [List.length_take, enc_length]; omega)]
  · rw [take_app_ge (by rw [enc_length]; omega), enc_length, getN_back (by simp; omega)]
    exact takeN_cut (by rw [List.length_take]; omega)
theorem text_fore : Fore text getText := by
  intro b x r h
  obtain ⟨h1, _, h3⟩ := getText_ok h
  refine ⟨enc 2 x.length ++ x, ?_, by rw [List.append_assoc]; exact h3.symm⟩
  unfold text
  rw [if_neg (by omega)]

section
variable {α β α' β' : Type} {D : α → Prop} {D' : α' → Prop} {f : α → Wr} {g : B → Res β} {h : α → β} {f' : α' → Wr} {g' : B → Res β'} {h' : α' → β'}
theorem both_back (H : Back D f g h) (H' : Back D' f' g' h') : Back (fun p : α × α' => D p.1 ∧ D' p.2) (fun p => bothW (f p.1) (f' p.2)) (bothR g g') (fun p => (h p.1, h' p.2)) := by
  intro p b r hd hp
  obtain ⟨x, y, h1, h2, rfl⟩ := bothW_ok hp
  unfold bothR
  rw [List.append_assoc, H _ _ _ hd.1 h1]
  simp only
  rw [H' _ _ _ hd.2 h2]
theorem both_cut (H : Back D f g h) (C : Cut D f g) (C' : Cut D' f' g') : Cut (fun p : α × α' => D p.1 ∧ D' p.2) (fun p => bothW (f p.1) (f' p.2)) (bothR g g') := by
  intro p b k hd hp hk
  obtain ⟨x, y, h1, h2, rfl⟩ := bothW_ok hp
  rw [List.length_append] at hk
  unfold bothR
  by_cases h3 : k < x.length
  · rw [take_app_lt h3, C _ _ _ hd.1 h1 h3]
  · rw [take_app_ge h3, H _ _ _ hd.1 h1]
    simp only
    rw [C' _ _ _ hd.2 h2 (by omega)]
theorem both_fore {g : B → Res α} {g' : B → Res α'} (F : Fore f g) (F' : Fore f' g') : Fore (fun p : α × α' => bothW (f p.1) (f' p.2)) (bothR g g') := by
  intro b p r hp
  unfold bothR at hp
  cases h1 : g b with
  | error e => rw [h1] at hp; cases hp
  | ok q =>
    obtain ⟨x, r1⟩ := q
    rw [h1] at hp
    simp only at hp
    cases h2 : g' r1 with
    | error e => rw [h2] at hp; cases hp
    | ok q2 =>
      obtain ⟨y, r2⟩ := q2
      rw [h2] at hp
      injection hp with hp
      injection hp with h3 h4
      subst h3 h4
      obtain ⟨z1, e1, rfl⟩ := F _ _ _ h1
      obtain ⟨z2, e2, rfl⟩ := F' _ _ _ h2
      exact ⟨z1 ++ z2, by simp only [bothW, e1, e2], by rw [List.append_assoc]⟩
theorem putsM_back (H : Back D f g h) : ∀ (l : List α) (b r : B), (∀ x ∈ l, D x) → putsM f l = .ok b → getsM g l.length (b ++ r) = .ok (l.map h, r)
  | [], b, r, _, hb => by injection hb with hb; subst hb; rfl
  | x :: l, b, r, hd, hb => by
    simp only [putsM] at hb
    cases h1 : f x with
    | error e => rw [h1] at hb; cases hb
    | ok y =>
      rw [h1] at hb
      simp only at hb
      cases h2 : putsM f l with
      | error e => rw [h2] at hb; cases hb
      | ok z =>
        rw [h2] at hb
        injection hb with hb
        subst hb
        simp only [List.length_cons, getsM]
        rw [List.append_assoc, H _ _ _ (hd x (by simp)) h1]
        simp only
        rw [putsM_back H l z r (fun y hy => hd y (by simp [hy])) h2]
        rfl
theorem putsM_cut (H : Back D f g h) (C : Cut D f g) : ∀ (l : List α) (b : B) (k : Nat), (∀ x ∈ l, D x) → putsM f l = .ok b → k < b.length → getsM g l.length (b.take k) = .error 10
  | [], b, k, _, hb, hk => by injection hb with hb; subst hb; simp at hk
  | x :: l, b, k, hd, hb, hk => by
    simp only [putsM] at hb
    cases h1 : f x with
    | error e => rw [h1] at hb; cases hb
    | ok y =>
      rw [h1] at hb
      simp only at hb
      cases h2 : putsM f l with
      | error e => rw [h2] at hb; cases hb
      | ok z =>
        rw [h2] at hb
        injection hb with hb
        subst hb
        rw [List.length_append] at hk
        simp only [List.length_cons, getsM]
        by_cases h3 : k < y.length
        · rw [take_app_lt h3, C _ _ _ (hd x (by simp)) h1 h3]
        · rw [take_app_ge h3, H _ _ _ (hd x (by simp)) h1]
          simp only
          rw [putsM_cut H C l z (k - y.length) (fun y hy => hd y (by simp [hy])) h2 (by omega)]
theorem getsM_fore {g : B → Res α} (F : Fore f g) : ∀ (n : Nat) (b : B) (l : List α) (r : B), getsM g n b = .ok (l, r) → l.length = n ∧ ∃ y, putsM f l = .ok y ∧ y ++ r = b
  | 0, b, l, r, hb => by injection hb with hb; injection hb with h1 h2; subst h1 h2; exact ⟨rfl, [], rfl, rfl⟩
  | n + 1, b, l, r, hb => by
    simp only [getsM] at hb
    cases h1 : g b with
    | error e => rw [h1] at hb; cases hb
    | ok p =>
      obtain ⟨x, r1⟩ := p
      rw [h1] at hb
      simp only at hb
      cases h2 : getsM g n r1 with
      | error e => rw [h2] at hb; cases hb
      | ok q =>
        obtain ⟨l2, r2⟩ := q
        rw [h2] at hb
        injection hb with hb
        injection hb with h3 h4
        subst h3 h4
        obtain ⟨y, e1, rfl⟩ := F _ _ _ h1
        obtain ⟨hl, z, e2, rfl⟩ := getsM_fore F n _ _ _ h2
        exact ⟨by simp [hl], y ++ z, by simp only [putsM, e1, e2], by rw [List.append_assoc]⟩
theorem putL_parts {l : List α} {b : B} (hb : putL f l = .ok b) : l.length ≤ 65535 ∧ ∃ y, putsM f l = .ok y ∧ b = enc 2 l.length ++ y := by
  unfold putL at hb
  split at hb
  · cases hb
  · cases h2 : putsM f l with
    | error e => rw [h2] at hb; cases hb
    | ok z => rw [h2] at hb; injection hb with hb; exact ⟨by omega, z, rfl, hb.symm⟩
theorem putL_back (H : Back D f g h) : Back (fun l => ∀ x ∈ l, D x) (putL f) (getL g) (List.map h) := by
  intro l b r hd hb
  obtain ⟨hl, y, hy, rfl⟩ := putL_parts hb
  unfold getL
  rw [List.append_assoc, getN_back (by simp; omega)]
  exact putsM_back H l y r hd hy
theorem putL_cut (H : Back D f g h) (C : Cut D f g) : Cut (fun l => ∀ x ∈ l, D x) (putL f) (getL g) := by
  intro l b k hd hb hk
  obtain ⟨hl, y, hy, rfl⟩ := putL_parts hb
  rw [List.length_append, enc_length] at hk
  unfold getL
  by_cases h3 : k < 2
  · rw [take_app_lt (by rw [enc_length]; omega), getN_cut (by rw [List.length_take, enc_length]; omega)]
  · rw [take_app_ge (by rw [enc_length]; omega), enc_length, getN_back (by simp; omega)]
    exact putsM_cut H C l y (k - 2) hd hy (by omega)
theorem getL_fore {g : B → Res α} (F : Fore f g) : Fore (putL f) (getL g) := by
  intro b l r hb
  unfold getL at hb
  cases h1 : getN 2 b with
  | error e => rw [h1] at hb; cases hb
  | ok p =>
    obtain ⟨n, r1⟩ := p
    rw [h1] at hb
    obtain ⟨hl, y, hy, rfl⟩ := getsM_fore F n r1 l r hb
    have hn := (getN_ok h1).2.2.2
    refine ⟨enc 2 n ++ y, ?_, by rw [List.append_assoc]; exact getN_fore h1⟩
    unfold putL
    rw [if_neg (by simp at hn; omega), hy, hl]
theorem Back.mono {D1 : α → Prop} (H : Back D f g h) (hD : ∀ x, D1 x → D x) : Back D1 f g h := fun x b r hx => H x b r (hD x hx)
theorem Cut.mono {D1 : α → Prop} (H : Cut D f g) (hD : ∀ x, D1 x → D x) : Cut D1 f g := fun x b r hx => H x b r (hD x hx)
end

/-! Long texts and values. -/
theorem getNum_back {n : Nat} {r : B} (h : n < 4294967296) : getNum (enc 4 n ++ r) = .ok (sgn 4 n, r) := by
  unfold getNum
  rw [getN_back (by simpa using h)]
theorem getNum_cut {b : B} (h : b.length < 4) : getNum b = .error 10 := by unfold getNum; rw [getN_cut h]
theorem sgn4_small {n : Nat} (h : n < 2147483648) : sgn 4 n = (n : Int) := by unfold sgn; simp only [Nat.reducePow, Nat.reduceDiv]; rw [if_pos h]
def short31 (s : B) : Prop := s.length < 2147483648
theorem long_back : Back short31 (fun s => .ok (long s)) getLong id := by
  intro s b r hs h
  unfold short31 at hs
  injection h with h
  subst h
  unfold getLong long
  rw [List.append_assoc, getNum_back (by omega)]
  simp only
  rw [sgn4_small hs, if_neg (by omega)]
  exact takeN_back
theorem long_cut : Cut short31 (fun s => .ok (long s)) getLong := by
  intro s b k hs h hk
  unfold short31 at hs
  injection h with h
  subst h
  unfold long at hk ⊢
  rw [List.length_append, enc_length] at hk
  unfold getLong
  by_cases h3 : k < 4
  · rw [take_app_lt (by rw [enc_length]; omega), getNum_cut (by rw [List.length_take, enc_length]; omega)]
  · rw [take_app_ge (by rw [enc_length]; omega), enc_length, getNum_back (by omega)]
    simp only
    rw [sgn4_small hs, if_neg (by omega)]
    exact takeN_cut (by rw [List.length_take]; simp; omega)
/-- a value as it is got -/
def Val.norm (v : Val) : Val := if v.kind = 2 then v else ⟨v.kind, []⟩
def val31 (v : Val) : Prop := v.bytes.length < 2147483648
theorem value_parts {v : Val} {b : B} (h : value v = .ok b) : (v.kind = 0 ∧ b = enc 4 4294967295) ∨ (v.kind = 1 ∧ b = enc 4 4294967294) ∨ (v.kind = 2 ∧ b = enc 4 v.bytes.length ++ v.bytes) := by
  unfold value at h
  split at h
  · injection h with h; exact .inl ⟨‹_›, h ▸ by decide +kernel⟩
  · split at h
    · injection h with h; exact .inr (.inl ⟨‹_›, h ▸ by decide +kernel⟩)
    · split at h
      · injection h with h; exact .inr (.inr ⟨‹_›, h ▸ rfl⟩)
      · cases h
theorem sgn4_m1 : sgn 4 4294967295 = -1 := by decide +kernel
theorem sgn4_m2 : sgn 4 4294967294 = -2 := by decide +kernel
theorem value_back : Back val31 value getValue Val.norm := by
  intro v b r hv h
  unfold val31 at hv
  unfold getValue
  rcases value_parts h with ⟨hk, rfl⟩ | ⟨hk, rfl⟩ | ⟨hk, rfl⟩
  · rw [getNum_back (by omega)]
    simp only [sgn4_m1, if_true]
    simp [Val.norm, hk]
  · rw [getNum_back (by omega)]
    simp only [sgn4_m2]
    simp [Val.norm, hk]
  · rw [List.append_assoc, getNum_back (by omega)]
    simp only
    rw [sgn4_small hv, if_neg (by omega), if_neg (by omega), if_neg (by omega), Int.toNat_natCast, takeN_back]
    obtain ⟨k, s⟩ := v
    simp only at hk
    subst hk
    rfl
theorem value_cut : Cut val31 value getValue := by
  intro v b k hv h hk
  unfold val31 at hv
  unfold getValue
  rcases value_parts h with ⟨_, rfl⟩ | ⟨_, rfl⟩ | ⟨_, rfl⟩
  · rw [enc_length] at hk
    rw [getNum_cut (by rw [List.length_take, enc_length]; omega)]
  · rw [enc_length] at hk
    rw [getNum_cut (by rw [List.length_take, enc_length]; omega)]
  · rw [List.length_append, enc_length] at hk
    by_cases h3 : k < 4
    · rw [take_app_lt (by rw [enc_length]; omega), getNum_cut (by rw [List.length_take, enc_length]; omega)]
    · rw [take_app_ge (by rw [enc_length]; omega), enc_length, getNum_back (by omega)]
      simp only
      rw [sgn4_small hv, if_neg (by omega), if_neg (by omega), if_neg (by omega), Int.toNat_natCast, takeN_cut (by rw [List.length_take]; omega)]
theorem texts_back : Back (fun _ => True) texts getTexts (List.map id) := (putL_back (text_back fun _ => True)).mono fun _ _ _ _ => trivial
theorem texts_back' {l : List B} {b r : B} (h : texts l = .ok b) : getTexts (b ++ r) = .ok (l, r) := by
  have := texts_back l b r trivial h
  rwa [List.map_id] at this
theorem texts_cut : Cut (fun _ => True) texts getTexts := (putL_cut (text_back fun _ => True) (text_cut _)).mono fun _ _ _ _ => trivial
theorem texts_fore : Fore texts getTexts := getL_fore text_fore
theorem pair_back : Back (fun _ => True) pairW pairR id := (both_back (text_back fun _ => True) (text_back fun _ => True)).mono fun _ _ => ⟨trivial, trivial⟩
theorem pair_cut : Cut (fun _ => True) pairW pairR := (both_cut (text_back fun _ => True) (text_cut _) (text_cut fun _ => True)).mono fun _ _ => ⟨trivial, trivial⟩
theorem pairs_back' {l : List (B × B)} {b r : B} (h : putL pairW l = .ok b) : getL pairR (b ++ r) = .ok (l, r) := by
  have := putL_back pair_back l b r (fun _ _ => trivial) h
  rwa [List.map_id] at this
theorem pairs_cut : Cut (fun _ => True) (putL pairW) (getL pairR) := (putL_cut pair_back pair_cut).mono fun _ _ _ _ => trivial
theorem multi_back : Back (fun _ => True) multiW multiR id := by
  have := (both_back (text_back fun _ => True) texts_back).mono (D1 := fun _ => True) fun _ _ => ⟨trivial, trivial⟩
  intro x b r hx h
  have h2 : bothR getText getTexts (b ++ r) = .ok ((x.1, x.2.map id), r) := this x b r hx h
  rw [List.map_id] at h2
  exact h2
theorem multis_back' {l : List (B × List B)} {b r : B} (h : putL multiW l = .ok b) : getL multiR (b ++ r) = .ok (l, r) := by
  have := putL_back multi_back l b r (fun _ _ => trivial) h
  rwa [List.map_id] at this
theorem entry_back : Back (fun p : B × Val => val31 p.2) entryW entryR (fun p => (p.1, p.2.norm)) := (both_back (text_back fun _ => True) value_back).mono fun _ h => ⟨trivial, h⟩
theorem entry_cut : Cut (fun p : B × Val => val31 p.2) entryW entryR := (both_cut (text_back fun _ => True) (text_cut _) value_cut).mono fun _ h => ⟨trivial, h⟩
theorem entries_back {l : List (B × Val)} {b r : B} (hl : ∀ x ∈ l, val31 x.2) (h : putL entryW l = .ok b) : getL entryR (b ++ r) = .ok (l.map fun p => (p.1, p.2.norm), r) := putL_back entry_back l b r hl h
theorem entries_cut : Cut (fun l => ∀ x ∈ l, val31 x.2) (putL entryW) (getL entryR) := putL_cut entry_back entry_cut

/-! Addresses and consistencies. -/
theorem inet_parts {a : Adr} {b : B} (h : inet a = .ok b) : (a.addr.length = 4 ∨ a.addr.length = 16) ∧ b = enc 1 a.addr.length ++ (a.addr ++ enc 4 a.port) := by
  unfold inet at h
  split at h
  · rename_i hl
    injection h with h
    refine ⟨hl, ?_⟩
    subst h
    have e : enc 1 a.addr.length = [UInt8.ofNat a.addr.length] := by simp [enc, encAt]
    rw [e]
    rfl
  · cases h
theorem inet_back : Back (fun a : Adr => a.port < 4294967296) inet getInet id := by
  intro a b r ha h
  obtain ⟨hl, rfl⟩ := inet_parts h
  unfold getInet
  rw [List.append_assoc, getN_back (by simp; omega)]
  simp only
  rw [if_pos (by omega), List.append_assoc, takeN_back]
  simp only
  rw [getN_back (by simpa using ha)]
  rfl
theorem inet_cut : Cut (fun a : Adr => a.port < 4294967296) inet getInet := by
  intro a b k ha h hk
  obtain ⟨hl, rfl⟩ := inet_parts h
  rw [List.length_append, List.length_append, enc_length, enc_length] at hk
  unfold getInet
  by_cases h3 : k < 1
  · rw [take_app_lt (by rw [enc_length]; omega), getN_cut (by rw [List.length_take, enc_length]; omega)]
  · rw [take_app_ge (by rw [enc_length]; omega), enc_length, getN_back (by simp; omega)]
    simp only
    rw [if_pos (by omega)]
    by_cases h4 : k - 1 < a.addr.length
    · rw [take_app_lt h4, takeN_cut (by rw [List.length_take]; omega)]
    · rw [take_app_ge h4, takeN_back]
      simp only
      rw [getN_cut (by rw [List.length_take, enc_length]; omega)]
theorem cons_back : Back (fun _ => True) cons getCons id := by
  intro c b r _ h
  unfold cons at h
  split at h
  · cases h
  · injection h with h
    subst h
    unfold getCons
    rw [getN_back (by simp; omega)]
    simp only
    rw [if_neg (by omega)]
    rfl
theorem inet_fore : Fore inet getInet := by
  intro b a r h
  unfold getInet at h
  cases h1 : getN 1 b with
  | error e => rw [h1] at h; cases h
  | ok p =>
    obtain ⟨n, r1⟩ := p
    rw [h1] at h
    simp only at h
    split at h
    · rename_i hn
      cases h2 : takeN n r1 with
      | error e => rw [h2] at h; cases h
      | ok p2 =>
        obtain ⟨x, r2⟩ := p2
        rw [h2] at h
        simp only at h
        cases h3 : getN 4 r2 with
        | error e => rw [h3] at h; cases h
        | ok p3 =>
          obtain ⟨q, r3⟩ := p3
          rw [h3] at h
          injection h with h
          injection h with e1 e2
          subst e1 e2
          obtain ⟨e3, e4⟩ := takeN_fore h2
          have e5 := getN_fore h1
          have e6 := getN_fore h3
          have e : enc 1 x.length = [UInt8.ofNat x.length] := by simp [enc, encAt]
          refine ⟨UInt8.ofNat x.length :: x ++ enc 4 q, ?_, ?_⟩
          · unfold inet
            rw [if_pos (by simp only; omega)]
          · rw [← e5, ← e3, ← e6, ← e4, e]
            simp
    · cases h
theorem cons_fore : Fore cons getCons := by
  intro b c r h
  unfold getCons at h
  cases h1 : getN 2 b with
  | error e => rw [h1] at h; cases h
  | ok p =>
    obtain ⟨n, r1⟩ := p
    rw [h1] at h
    simp only at h
    split at h
    · cases h
    · injection h with h
      injection h with e1 e2
      subst e1 e2
      exact ⟨enc 2 n, by unfold cons; rw [if_neg (by omega)], getN_fore h1⟩
theorem getNum_fore {b : B} {n : Int} {r : B} (h : getNum b = .ok (n, r)) : ∃ x, n = sgn 4 x ∧ x < 4294967296 ∧ enc 4 x ++ r = b := by
  unfold getNum at h
  cases h1 : getN 4 b with
  | error e => rw [h1] at h; cases h
  | ok p =>
    obtain ⟨x, r1⟩ := p
    rw [h1] at h
    injection h with h
    injection h with e1 e2
    subst e1 e2
    exact ⟨x, rfl, by have := (getN_ok h1).2.2.2; simpa using this, getN_fore h1⟩
theorem sgn4_inv {x : Nat} (h : x < 4294967296) : (x : Int) = if sgn 4 x < 0 then sgn 4 x + 4294967296 else sgn 4 x := by
  unfold sgn
  simp only [Nat.reducePow, Nat.reduceDiv]
  by_cases h1 : x < 2147483648
  · rw [if_pos h1, if_neg (by omega)]
  · rw [if_neg h1, if_pos (by omega)]; omega
theorem long_fore : Fore (fun s => .ok (long s)) getLong := by
  intro b s r h
  unfold getLong at h
  cases h1 : getNum b with
  | error e => rw [h1] at h; cases h
  | ok p =>
    obtain ⟨n, r1⟩ := p
    rw [h1] at h
    simp only at h
    split at h
    · cases h
    · obtain ⟨x, rfl, hx, e1⟩ := getNum_fore h1
      obtain ⟨e2, e3⟩ := takeN_fore h
      have := sgn4_inv hx
      rw [if_neg (by assumption)] at this
      refine ⟨_, rfl, ?_⟩
      unfold long
      rw [show s.length = x by omega, List.append_assoc, e2, e1]
theorem value_fore : Fore value getValue := by
  intro b v r h
  unfold getValue at h
  cases h1 : getNum b with
  | error e => rw [h1] at h; cases h
  | ok p =>
    obtain ⟨n, r1⟩ := p
    rw [h1] at h
    simp only at h
    obtain ⟨x, rfl, hx, e1⟩ := getNum_fore h1
    have hi := sgn4_inv hx
    split at h
    · rename_i hn
      injection h with h
      injection h with e2 e3
      subst e2 e3
      rw [hn, if_pos (by omega)] at hi
      obtain rfl : x = 4294967295 := by omega
      exact ⟨_, rfl, by rw [← e1]; congr 1⟩
    · split at h
      · rename_i hn
        injection h with h
        injection h with e2 e3
        subst e2 e3
        rw [hn, if_pos (by omega)] at hi
        obtain rfl : x = 4294967294 := by omega
        exact ⟨_, rfl, by rw [← e1]; congr 1⟩
      · split at h
        · cases h
        · cases h2 : takeN (sgn 4 x).toNat r1 with
          | error e => rw [h2] at h; cases h
          | ok p2 =>
            obtain ⟨y, r2⟩ := p2
            rw [h2] at h
            injection h with h
            injection h with e2 e3
            subst e2 e3
            obtain ⟨e4, e5⟩ := takeN_fore h2
            rw [if_neg (by assumption)] at hi
            refine ⟨long y, rfl, ?_⟩
            unfold long
            rw [show y.length = x by omega, List.append_assoc, e4, e1]
theorem entries_fore : Fore (putL entryW) (getL entryR) := getL_fore (both_fore text_fore value_fore)
theorem pairs_fore : Fore (putL pairW) (getL pairR) := getL_fore (both_fore text_fore text_fore)
theorem multis_fore : Fore (putL multiW) (getL multiR) := getL_fore (both_fore text_fore texts_fore)
end Sb
