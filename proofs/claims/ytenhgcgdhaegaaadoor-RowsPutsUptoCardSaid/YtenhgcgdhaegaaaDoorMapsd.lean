/- Walks over the package maps: get of structs. Conditions: lengths up to 2^47. (written by gen_mapsget.py) -/
import Derived.Test.YtenhgcgdhaegaaaDoorMapsb
set_option linter.unusedVariables false
set_option linter.unusedSimpArgs false
namespace Go.Proofs.Sb
open Go.RowKit _root_.Sb

theorem Arr.lt {α : Type} {k : Nat} {P : α → List Value → Prop} {S : Nat → Prop} {w : World} {A : Option Addr} {n c : Nat} {l : List α} (h : Arr k P S w A n c l) : Arr k P (fun b => S b ∧ b < w.heap.size) w A n c l := h.mono fun _ hs hl => ⟨hs, hl⟩
theorem multiP.imp {S S' : Nat → Prop} {w w' : World} {p : B × List B} {v : List Value} (h : multiP S w p v) (hi : ∀ A n c l, Arr 1 strP S w A n c l → Arr 1 strP S' w' A n c l) : multiP S' w' p v :=
  let ⟨A, n, c, h1, h2, h3⟩ := h; ⟨A, n, c, h1, h2, hi _ _ _ _ h3⟩
theorem entryP.imp {S S' : Nat → Prop} {w w' : World} {p : B × Val} {v : List Value} (h : entryP S w p v) (hi : ∀ A n c l, Sl S w A n c l → Sl S' w' A n c l) : entryP S' w' p v :=
  let ⟨A, n, c, h1, h2, h3⟩ := h; ⟨A, n, c, h1, h2, hi _ _ _ _ h3⟩
theorem pairP_one (p : B × B) (v : List Value) (h : pairP p v) : ∀ u ∈ v, u.oneCell' = true := by
  rw [h.1]
  intro u hu
  simp at hu
  rcases hu with rfl | rfl <;> rfl
theorem multiP_one {S : Nat → Prop} {w : World} (p : B × List B) (v : List Value) (h : multiP S w p v) : ∀ u ∈ v, u.oneCell' = true := by
  obtain ⟨A, n, c, h, _⟩ := h
  rw [h]
  intro u hu
  simp at hu
  rcases hu with rfl | rfl <;> rfl
theorem entryP_one {S : Nat → Prop} {w : World} (p : B × Val) (v : List Value) (h : entryP S w p v) : ∀ u ∈ v, u.oneCell' = true := by
  obtain ⟨A, n, c, h, _⟩ := h
  rw [h]
  intro u hu
  simp at hu
  rcases hu with rfl | rfl | rfl <;> rfl
theorem bothR_len {α β : Type} {f : B → Res α} {g : B → Res β} (hf : ∀ b x r, f b = .ok (x, r) → r.length ≤ b.length) (hg : ∀ b x r, g b = .ok (x, r) → r.length ≤ b.length) (b : B) (x : α × β) (r : B) (h : bothR f g b = .ok (x, r)) : r.length ≤ b.length := by
  unfold bothR at h
  cases h1 : f b with
  | error e => rw [h1] at h; cases h
  | ok p =>
    obtain ⟨y, q⟩ := p
    rw [h1] at h
    simp only at h
    cases h2 : g q with
    | error e => rw [h2] at h; cases h
    | ok p2 =>
      obtain ⟨z, q2⟩ := p2
      rw [h2] at h
      injection h with h
      injection h with e1 e2
      subst e2
      have := hf _ _ _ h1
      have := hg _ _ _ h2
      omega
theorem bothR_ne {α β : Type} {f : B → Res α} {g : B → Res β} (hf : ∀ b e, f b = .error e → e ≠ 0) (hg : ∀ b e, g b = .error e → e ≠ 0) {b : B} {e : Int} (h : bothR f g b = .error e) : e ≠ 0 := by
  unfold bothR at h
  cases h1 : f b with
  | error e1 => rw [h1] at h; injection h with h; rw [← h]; exact hf _ _ h1
  | ok p =>
    obtain ⟨y, q⟩ := p
    rw [h1] at h
    simp only at h
    cases h2 : g q with
    | error e2 => rw [h2] at h; injection h with h; rw [← h]; exact hg _ _ h2
    | ok p2 => rw [h2] at h; cases h
theorem getsM_ne {α : Type} {f : B → Res α} (hf : ∀ b e, f b = .error e → e ≠ 0) : ∀ {n : Nat} {b : B} {e : Int}, getsM f n b = .error e → e ≠ 0
  | 0, _, _, h => by cases h
  | n + 1, b, e, h => by
    rw [getsM] at h
    cases h1 : f b with
    | error e1 => rw [h1] at h; injection h with h; rw [← h]; exact hf _ _ h1
    | ok p =>
      obtain ⟨y, q⟩ := p
      rw [h1] at h
      simp only at h
      cases h2 : getsM f n q with
      | error e2 => rw [h2] at h; injection h with h; rw [← h]; exact getsM_ne hf h2
      | ok p2 => rw [h2] at h; cases h
theorem getL_ne {α : Type} {f : B → Res α} (hf : ∀ b e, f b = .error e → e ≠ 0) {b : B} {e : Int} (h : getL f b = .error e) : e ≠ 0 := by
  unfold getL at h
  cases hg : getN 2 b with
  | error e1 => rw [hg] at h; injection h with h; have := getN_err hg; omega
  | ok p => obtain ⟨n, q⟩ := p; rw [hg] at h; exact getsM_ne hf h
theorem gv_ne {b : B} {e : Int} (h : getValue b = .error e) : e ≠ 0 := by
  unfold getValue at h
  cases hg : getNum b with
  | error e' => rw [hg] at h; injection h with h; have := getNum_err hg; omega
  | ok p =>
    obtain ⟨n, r⟩ := p
    rw [hg] at h
    simp only at h
    split at h
    · cases h
    · split at h
      · cases h
      · split at h
        · injection h; omega
        · cases hq : takeN n.toNat r with
          | error e2 => rw [hq] at h; injection h with h; have := takeN_err hq; omega
          | ok p2 => rw [hq] at h; cases h
theorem gt_len (b x r : B) (h : getText b = .ok (x, r)) : r.length ≤ b.length := by have := getText_ok h; omega
theorem gts_len (b : B) (x : List B) (r : B) (h : getTexts b = .ok (x, r)) : r.length ≤ b.length := (getL_len gt_len h).2
theorem gv_len (b : B) (x : Val) (r : B) (h : getValue b = .ok (x, r)) : r.length ≤ b.length := by
  unfold getValue at h
  cases hg : getNum b with
  | error e' => rw [hg] at h; cases h
  | ok p =>
    obtain ⟨n, q⟩ := p
    have h1 := (getNum_ok hg).2.1
    have h2 : q.length ≤ b.length := by rw [h1, List.length_drop]; omega
    rw [hg] at h
    simp only at h
    split at h
    · injection h with h; injection h with e1 e2; subst e2; exact h2
    · split at h
      · injection h with h; injection h with e1 e2; subst e2; exact h2
      · split at h
        · cases h
        · cases hq : takeN n.toNat q with
          | error e2 => rw [hq] at h; cases h
          | ok p2 =>
            obtain ⟨y, q2⟩ := p2
            rw [hq] at h
            injection h with h
            injection h with e1 e2
            subst e2
            have := (takeN_ok hq).2.2
            have : q2.length ≤ q.length := by rw [this, List.length_drop]; omega
            omega
theorem pr_len (b : B) (x : B × B) (r : B) (h : pairR b = .ok (x, r)) : r.length ≤ b.length := bothR_len gt_len gt_len b x r h
theorem mr_len (b : B) (x : B × List B) (r : B) (h : multiR b = .ok (x, r)) : r.length ≤ b.length := bothR_len gt_len gts_len b x r h
theorem er_len (b : B) (x : B × Val) (r : B) (h : entryR b = .ok (x, r)) : r.length ≤ b.length := bothR_len gt_len gv_len b x r h
theorem gts_ne {b : B} {e : Int} (h : getTexts b = .error e) : e ≠ 0 := getL_ne (fun _ _ h => gt_ne h) h
theorem pr_ne {b : B} {e : Int} (h : pairR b = .error e) : e ≠ 0 := bothR_ne (fun _ _ h => gt_ne h) (fun _ _ h => gt_ne h) h
theorem mr_ne {b : B} {e : Int} (h : multiR b = .error e) : e ≠ 0 := bothR_ne (fun _ _ h => gt_ne h) (fun _ _ h => gts_ne h) h
theorem er_ne {b : B} {e : Int} (h : entryR b = .error e) : e ≠ 0 := bothR_ne (fun _ _ h => gt_ne h) (fun _ _ h => gv_ne h) h

end Go.Proofs.Sb
