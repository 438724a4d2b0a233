/- Plain mathematics: what stands ahead of a body, put and read again, whole or cut. No conditions. -/
import Derived.Test.YtpgcadicamnpkaaPree
set_option linter.unusedVariables false
set_option linter.unusedSimpArgs false
namespace Sb
theorem preW_parts {p : Pre} {b : B} {f : Nat} (h : preW p = .ok (b, f)) : (p.tracing.length = 0 ∨ p.tracing.length = 16) ∧ ∃ w l, texts p.warnings = .ok w ∧ putL entryW p.payload = .ok l ∧
    b = p.tracing ++ ((if 0 < p.warnings.length then w else []) ++ (if 0 < p.payload.length then l else [])) ∧
    f = (if 0 < p.tracing.length then 2 else 0) + (if 0 < p.warnings.length then 8 else 0) + (if 0 < p.payload.length then 4 else 0) := by
  unfold preW at h
  by_cases ht : p.tracing.length ≠ 0 ∧ p.tracing.length ≠ 16
  · rw [if_pos ht] at h; cases h
  · rw [if_neg ht] at h
    refine ⟨by omega, ?_⟩
    cases h1 : texts p.warnings with
    | error e => rw [h1] at h; cases h
    | ok w =>
      rw [h1] at h
      cases h2 : putL entryW p.payload with
      | error e => rw [h2] at h; cases h
      | ok l =>
        rw [h2] at h
        injection h with h
        injection h with h3 h4
        exact ⟨w, l, rfl, rfl, by rw [← h3, List.append_assoc], h4.symm⟩
theorem preW_ne {p : Pre} {e : Int} (h : preW p = .error e) : e ≠ 0 := by
  unfold preW at h
  by_cases ht : p.tracing.length ≠ 0 ∧ p.tracing.length ≠ 16
  · rw [if_pos ht] at h; injection h with h; omega
  · rw [if_neg ht] at h
    cases h1 : texts p.warnings with
    | error e1 => rw [h1] at h; injection h with h; subst h; exact texts_ne h1
    | ok w =>
      rw [h1] at h
      cases h2 : putL entryW p.payload with
      | error e1 => rw [h2] at h; injection h with h; subst h; exact putL_ne (fun _ _ h => entryW_ne h) h2
      | ok l => rw [h2] at h; cases h
theorem preW_flags {p : Pre} {b : B} {f : Nat} (h : preW p = .ok (b, f)) : flagB f 2 = decide (0 < p.tracing.length) ∧ flagB f 8 = decide (0 < p.warnings.length) ∧ flagB f 4 = decide (0 < p.payload.length) ∧ f < 256 := by
  obtain ⟨_, _, _, _, _, _, rfl⟩ := preW_parts h
  by_cases h0 : 0 < p.tracing.length <;> by_cases h1 : 0 < p.warnings.length <;> by_cases h2 : 0 < p.payload.length <;> simp [h0, h1, h2, flagB]
theorem preW_nil {p : Pre} {f : Nat} (h : preW p = .ok ([], f)) : f = 0 := by
  obtain ⟨_, w, l, hw, hl, hb, rfl⟩ := preW_parts h
  have hlen := congrArg List.length hb
  simp only [List.length_append, List.length_nil] at hlen
  obtain ⟨_, yw, _, ew⟩ := putL_parts hw
  obtain ⟨_, yl, _, el⟩ := putL_parts hl
  have lw : 2 ≤ w.length := by rw [ew, List.length_append, enc_length]; omega
  have ll : 2 ≤ l.length := by rw [el, List.length_append, enc_length]; omega
  by_cases h0 : 0 < p.tracing.length
  · omega
  · by_cases h1 : 0 < p.warnings.length
    · rw [if_pos h1] at hlen; omega
    · by_cases h2 : 0 < p.payload.length
      · rw [if_pos h2] at hlen; omega
      · rw [if_neg h0, if_neg h1, if_neg h2]
theorem preW_len {p : Pre} {b : B} {f : Nat} (h : preW p = .ok (b, f)) (hn1 : p.warnings.length ≤ 50) (hn2 : p.payload.length ≤ 50) (hv : ∀ x ∈ p.payload, x.2.bytes.length ≤ 1048576) : b.length ≤ 1000000000 := by
  obtain ⟨ht, w, l, hw, hl, rfl, _⟩ := preW_parts h
  have h1 := (texts_len hw).1
  have h2 := (putL_len (M := 1114117) (fun x hx b hb => by have := entryW_len hb; have := hv x hx; omega) hl).2
  have h3 : p.warnings.length * 65537 ≤ 50 * 65537 := Nat.mul_le_mul_right _ hn1
  have h4 : p.payload.length * 1114117 ≤ 50 * 1114117 := Nat.mul_le_mul_right _ hn2
  simp only [List.length_append]
  have h5 : (if 0 < p.warnings.length then w else []).length ≤ w.length := by split <;> simp
  have h6 : (if 0 < p.payload.length then l else []).length ≤ l.length := by split <;> simp
  omega
theorem part0_back {p : Pre} {t y : B} (ht : t.length = 16) : partR 0 p (t ++ y) = .ok ({ p with tracing := t }, y) := by
  have h := takeN_back (s := t) (r := y)
  rw [ht] at h
  simp [partR, h]
theorem part1_back {p : Pre} {l : List B} {w y : B} (h : texts l = .ok w) : partR 1 p (w ++ y) = .ok ({ p with warnings := l }, y) := by
  simp [partR, texts_back' h]
theorem part2_back {p : Pre} {l : List (B × Val)} {w y : B} (hv : ∀ x ∈ l, val31 x.2) (h : putL entryW l = .ok w) : partR 2 p (w ++ y) = .ok ({ p with payload := l.map fun p => (p.1, p.2.norm) }, y) := by
  simp [partR, entries_back hv h]
theorem read2_cut {f : Nat} {pl : List (B × Val)} {l : B} (hf : flagB f 4 = decide (0 < pl.length)) (hv : ∀ x ∈ pl, val31 x.2) (h : putL entryW pl = .ok l) (p : Pre) {k : Nat} (hk : k < (if 0 < pl.length then l else []).length) :
    readR f [(4, 2)] p ((if 0 < pl.length then l else []).take k) = .error 10 := by
  by_cases h2 : 0 < pl.length
  · rw [if_pos h2] at hk ⊢
    have := entries_cut pl l k hv h hk
    simp [readR, hf, h2, partR, this]
  · rw [if_neg h2] at hk; simp at hk
theorem read1_cut {f : Nat} {wa : List B} {w y : B} (hf : flagB f 8 = decide (0 < wa.length)) (h : texts wa = .ok w) (hy : ∀ (p : Pre) (k : Nat), k < y.length → readR f [(4, 2)] p (y.take k) = .error 10) (p : Pre) {k : Nat} (hk : k < ((if 0 < wa.length then w else []) ++ y).length) :
    readR f [(8, 1), (4, 2)] p (((if 0 < wa.length then w else []) ++ y).take k) = .error 10 := by
  by_cases h2 : 0 < wa.length
  · rw [if_pos h2] at hk ⊢
    rw [readR, hf, decide_eq_true h2]
    by_cases h3 : k < w.length
    · rw [take_app_lt h3]
      simp [partR, texts_cut wa w k trivial h h3]
    · rw [take_app_ge h3, part1_back h]
      exact hy _ _ (by rw [List.length_append] at hk; omega)
  · rw [if_neg h2] at hk ⊢
    rw [readR, hf, decide_eq_false h2, List.nil_append] at *
    exact hy p k hk
theorem read0_cut {f : Nat} {t y : B} (hf : flagB f 2 = decide (0 < t.length)) (ht : t.length = 0 ∨ t.length = 16) (hy : ∀ (p : Pre) (k : Nat), k < y.length → readR f [(8, 1), (4, 2)] p (y.take k) = .error 10) (p : Pre) {k : Nat} (hk : k < (t ++ y).length) :
    readR f respParts p ((t ++ y).take k) = .error 10 := by
  rcases ht with ht | ht
  · have : t = [] := List.eq_nil_of_length_eq_zero ht
    subst this
    rw [respParts, readR, hf]
    exact hy p k hk
  · rw [respParts, readR, hf, decide_eq_true (by omega)]
    by_cases h3 : k < t.length
    · rw [take_app_lt h3]
      simp [partR, takeN_cut (show (t.take k).length < 16 by rw [List.length_take]; omega)]
    · rw [take_app_ge h3, part0_back ht]
      exact hy _ _ (by rw [List.length_append] at hk; omega)
theorem preW_cut {p : Pre} {b : B} {f k : Nat} (h : preW p = .ok (b, f)) (hv : ∀ x ∈ p.payload, val31 x.2) (hk : k < b.length) : readR f respParts Pre.none (b.take k) = .error 10 := by
  obtain ⟨h2, h8, h4, _⟩ := preW_flags h
  obtain ⟨ht, w, l, hw, hl, rfl, _⟩ := preW_parts h
  exact read0_cut h2 ht (fun p k hk => read1_cut h8 hw (fun p k hk => read2_cut h4 hv hl p hk) p hk) _ hk
theorem read2_back {f : Nat} {pl : List (B × Val)} {l : B} (hf : flagB f 4 = decide (0 < pl.length)) (hv : ∀ x ∈ pl, val31 x.2) (h : putL entryW pl = .ok l) (p : Pre) (hp : p.payload = []) (y : B) :
    readR f [(4, 2)] p ((if 0 < pl.length then l else []) ++ y) = .ok ({ p with payload := pl.map fun p => (p.1, p.2.norm) }, y) := by
  by_cases h2 : 0 < pl.length
  · rw [if_pos h2, readR, hf, decide_eq_true h2, part2_back hv h]
    rfl
  · have : pl = [] := List.eq_nil_of_length_eq_zero (by omega)
    subst this
    rw [readR, hf]
    obtain ⟨a, b, c⟩ := p
    subst hp
    rfl
theorem preW_back {p : Pre} {b : B} {f : Nat} (h : preW p = .ok (b, f)) (hv : ∀ x ∈ p.payload, val31 x.2) (y : B) : readR f respParts Pre.none (b ++ y) = .ok (⟨p.tracing, p.warnings, p.payload.map fun p => (p.1, p.2.norm)⟩, y) := by
  obtain ⟨h2, h8, h4, _⟩ := preW_flags h
  obtain ⟨ht, w, l, hw, hl, rfl, _⟩ := preW_parts h
  obtain ⟨tr, wa, pl⟩ := p
  simp only at *
  rw [List.append_assoc, List.append_assoc]
  have h1 : ∀ p : Pre, p.warnings = [] → p.payload = [] → readR f [(8, 1), (4, 2)] p ((if 0 < wa.length then w else []) ++ ((if 0 < pl.length then l else []) ++ y)) = .ok ({ p with warnings := wa, payload := pl.map fun p => (p.1, p.2.norm) }, y) := by
    intro p hp1 hp2
    by_cases h9 : 0 < wa.length
    · rw [if_pos h9, readR, h8, decide_eq_true h9, part1_back hw]
      exact read2_back h4 hv hl { p with warnings := wa } hp2 y
    · have : wa = [] := List.eq_nil_of_length_eq_zero (by omega)
      subst this
      rw [readR, h8]
      have := read2_back h4 hv hl p hp2 y
      obtain ⟨a, b, c⟩ := p
      subst hp1
      exact this
  rcases ht with ht | ht
  · have : tr = [] := List.eq_nil_of_length_eq_zero ht
    subst this
    rw [respParts, readR, h2]
    exact h1 Pre.none rfl rfl
  · rw [respParts, readR, h2, decide_eq_true (by omega), part0_back ht]
    exact h1 _ rfl rfl
end Sb
