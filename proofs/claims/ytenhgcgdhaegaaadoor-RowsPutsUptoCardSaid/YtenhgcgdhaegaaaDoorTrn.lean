/- Plain mathematics of rows: what is got is not long. No conditions. -/
import Derived.Test.YtenhgcgdhaegaaaDoorTrf
set_option linter.unusedVariables false
set_option linter.unusedSimpArgs false
namespace Sb
theorem bindR_of {α β : Type} {r : Res α} {f : α → B → Res β} {y : β × B} (h : bindR r f = .ok y) : ∃ x b, r = .ok (x, b) ∧ f x b = .ok y := by
  cases r with
  | error e => cases h
  | ok p => exact ⟨p.1, p.2, rfl, h⟩
theorem getsM_cnt {α : Type} {f : B → Res α} : ∀ {k : Nat} {b : B} {xs : List α} {cur : B}, getsM f k b = .ok (xs, cur) → xs.length = k
  | 0, b, xs, cur, h => by injection h with h; injection h with h1 h2; subst h1; rfl
  | k + 1, b, xs, cur, h => by
    cases hx : f b with
    | error e => simp [getsM, hx] at h
    | ok p =>
      obtain ⟨x, r⟩ := p
      cases hr : getsM f k r with
      | error e => simp [getsM, hx, hr] at h
      | ok p2 =>
        obtain ⟨ys, r2⟩ := p2
        simp [getsM, hx, hr] at h
        obtain ⟨rfl, _⟩ := h
        rw [List.length_cons, getsM_cnt hr]
theorem getsM_each {α : Type} {f : B → Res α} {P : α → Prop} (hf : ∀ b x r, f b = .ok (x, r) → P x) : ∀ {k : Nat} {b : B} {xs : List α} {cur : B}, getsM f k b = .ok (xs, cur) → ∀ x ∈ xs, P x
  | 0, b, xs, cur, h => by injection h with h; injection h with h1 h2; subst h1; intro x hx; cases hx
  | k + 1, b, xs, cur, h => by
    cases hx : f b with
    | error e => simp [getsM, hx] at h
    | ok p =>
      obtain ⟨x, r⟩ := p
      cases hr : getsM f k r with
      | error e => simp [getsM, hx, hr] at h
      | ok p2 =>
        obtain ⟨ys, r2⟩ := p2
        simp [getsM, hx, hr] at h
        obtain ⟨rfl, _⟩ := h
        intro y hy
        rcases List.mem_cons.1 hy with rfl | hy
        · exact hf b _ _ hx
        · exact getsM_each hf hr y hy
theorem cnt_4096 {b r : B} {n : Nat} (h : getCnt b = .ok (n, r)) : n ≤ 4096 := by have := cnt_le (.ok b); rw [gV_ok h] at this; exact this
theorem cols_sm {keys : Bool} {b : B} {t : Tb} {l : List Nat} {r : B} (h : colsR keys b = .ok ((t, l), r)) : 0 ≤ t.count ∧ t.count ≤ 4096 ∧ t.cols.length ≤ 4096 ∧ t.rows = [] := by
  unfold colsR at h
  obtain ⟨f, b1, h1, h⟩ := bindR_of h
  split at h
  · cases h
  obtain ⟨n, b2, h2, h⟩ := bindR_of h
  obtain ⟨l2, b3, h3, h⟩ := bindR_of h
  obtain ⟨v, b4, h4, h⟩ := bindR_of h
  obtain ⟨cs, b5, h5, h⟩ := bindR_of h
  injection h with h
  injection h with h6 h7
  injection h6 with h6 h8
  subst h6
  have hn := cnt_4096 h2
  refine ⟨by show (0 : Int) ≤ (n : Int); omega, by show (n : Int) ≤ 4096; omega, ?_, rfl⟩
  show cs.length ≤ 4096
  unfold colsT at h5
  split at h5
  · injection h5 with h5
    injection h5 with h5 _
    subst h5
    exact Nat.zero_le _
  · obtain ⟨p, b6, _, h6⟩ := bindR_of h5
    rw [getsM_cnt h6]
    exact hn
theorem none_sm : TbSm Tb.none := ⟨Nat.zero_le _, Nat.zero_le _, fun x hx => by cases hx⟩
theorem got_sm (b : B) : TbSm (eV Tb.none (getTb b)) := by
  cases hg : getTb b with
  | error e => exact none_sm
  | ok t =>
    show TbSm t
    have h := endR_ok hg
    unfold tbR at h
    obtain ⟨p, b1, h1, h⟩ := bindR_of h
    obtain ⟨n, b2, h2, h⟩ := bindR_of h
    obtain ⟨rs, b3, h3, h⟩ := bindR_of h
    injection h with h
    injection h with h4 h5
    subst h4
    obtain ⟨t0, l0⟩ := p
    obtain ⟨c0, c1, c2, c3⟩ := cols_sm h1
    have hn := cnt_4096 h2
    refine ⟨c2, by show rs.length ≤ 4096; rw [getsM_cnt h3]; exact hn, ?_⟩
    refine getsM_each (P := fun x : List Val => x.length ≤ 4096) (fun b x r hx => ?_) h3
    rw [getsM_cnt hx]
    show t0.count.toNat ≤ 4096
    omega
theorem meta_sm (b : B) : TbSm (eV mNone (getMeta b)).2.1 ∧ TbSm (eV mNone (getMeta b)).2.2 ∧ (eV mNone (getMeta b)).2.1.rows = [] ∧ (eV mNone (getMeta b)).2.2.rows = [] := by
  cases hg : getMeta b with
  | error e => exact ⟨none_sm, none_sm, rfl, rfl⟩
  | ok t =>
    have h := endR_ok hg
    unfold metaR at h
    obtain ⟨p, b1, h1, h⟩ := bindR_of h
    obtain ⟨p2, b2, h2, h⟩ := bindR_of h
    injection h with h
    injection h with h4 h5
    subst h4
    obtain ⟨t0, l0⟩ := p
    obtain ⟨t2, l2⟩ := p2
    obtain ⟨c0, c1, c2, c3⟩ := cols_sm h1
    obtain ⟨d0, d1, d2, d3⟩ := cols_sm h2
    refine ⟨⟨c2, ?_, ?_⟩, ⟨d2, ?_, ?_⟩, c3, d3⟩
    · show t0.rows.length ≤ 4096; rw [c3]; exact Nat.zero_le _
    · show ∀ x ∈ t0.rows, _; rw [c3]; intro x hx; cases hx
    · show t2.rows.length ≤ 4096; rw [d3]; exact Nat.zero_le _
    · show ∀ x ∈ t2.rows, _; rw [d3]; intro x hx; cases hx
end Sb
