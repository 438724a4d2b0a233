/- Plain: what is got is not long. -/
import Derived.Test.YtdgmkmadlnmhbaaRrg
import Derived.Test.YtdgmkmadlnmhbaaRqp
import Derived.Test.YtdgmkmadlnmhbaaRqw
set_option linter.unusedVariables false
set_option linter.unusedSimpArgs false
namespace Sb
theorem vals_cnt {nm : Bool} {b r : B} {l : List (B × Val)} (h : getVals nm b = .ok (l, r)) : l.length ≤ 1048576 := by
  obtain ⟨n, b1, h1, h2⟩ := bindR_inv h
  have h3 := (getsM_fore (ent_fore nm) n b1 l r h2).1
  have h4 := (getN_ok h1).2.2.2
  simp only [Nat.reducePow] at h4
  omega
theorem valsR_cnt {f : Nat} {b r : B} {l : List (B × Val)} (h : valsR f b = .ok (l, r)) : l.length ≤ 1048576 := by
  unfold valsR optR at h
  split at h
  · obtain ⟨l1, b1, h1, h2⟩ := bindR_inv h
    split at h2
    · cases h2
    · injection h2 with h2; injection h2 with h3 h4; subst h3; exact vals_cnt h1
  · injection h with h; injection h with h3 h4; subst h3; simp
theorem run_cnt {bt : Bool} {b r : B} {p : Par} (h : getRun bt b = .ok (p, r)) : p.values.length ≤ 1048576 ∧ p.names.length ≤ 1048576 := by
  obtain ⟨c, b1, h1, h⟩ := bindR_inv h
  obtain ⟨f, b2, h2, h⟩ := bindR_inv h
  split at h
  · cases h
  · obtain ⟨l, b3, h3, h⟩ := bindR_inv h
    obtain ⟨pg, b4, h4, h⟩ := bindR_inv h
    obtain ⟨st, b5, h5, h⟩ := bindR_inv h
    obtain ⟨sr, b6, h6, h⟩ := bindR_inv h
    obtain ⟨tm, b7, h7, h⟩ := bindR_inv h
    injection h with h; injection h with h8 h9
    subst h8
    have hc := valsR_cnt h3
    refine ⟨by show (l.map (·.2)).length ≤ _; rw [List.length_map]; exact hc, ?_⟩
    show (nmsV (bitB f 6) l).length ≤ _
    unfold nmsV
    split
    · rw [List.length_map]; exact hc
    · simp
theorem stm_cnt {b r : B} {x : Stm} (h : getStm b = .ok (x, r)) : x.values.length ≤ 1048576 := by
  obtain ⟨k, b1, h1, h⟩ := bindR_inv h
  split at h
  · cases h
  · obtain ⟨s, b2, h2, h⟩ := bindR_inv h
    obtain ⟨l, b3, h3, h⟩ := bindR_inv h
    injection h with h; injection h with h8 h9
    subst h8
    show (l.map (·.2)).length ≤ _
    rw [List.length_map]
    exact vals_cnt h3
theorem ms_each {α : Type} {f : B → Res α} {P : α → Prop} (F : ∀ b x r, f b = .ok (x, r) → P x) : ∀ (n : Nat) (b : B) (l : List α) (r : B), getsM f n b = .ok (l, r) → l.length = n ∧ ∀ x ∈ l, P x
  | 0, b, l, r, h => by injection h with h; injection h with h1 h2; subst h1; simp
  | n + 1, b, l, r, h => by
    rw [getsM] at h
    cases h1 : f b with
    | error e => rw [h1] at h; cases h
    | ok p =>
      obtain ⟨y, q⟩ := p
      rw [h1] at h
      simp only at h
      cases h2 : getsM f n q with
      | error e => rw [h2] at h; cases h
      | ok p2 =>
        obtain ⟨m, q2⟩ := p2
        rw [h2] at h
        injection h with h; injection h with h3 h4
        subst h3
        obtain ⟨g1, g2⟩ := ms_each F n q m q2 h2
        refine ⟨by simp [g1], fun x hx => ?_⟩
        rcases List.mem_cons.1 hx with rfl | hx
        · exact F _ _ _ h1
        · exact g2 x hx
theorem lst_cnt {α : Type} {f : B → Res α} {b r : B} {l : List α} (h : getL f b = .ok (l, r)) : l.length ≤ 1048576 := by
  rw [eqL] at h
  obtain ⟨n, b1, h1, h2⟩ := bindR_inv h
  have h3 := (ms_each (P := fun _ => True) (fun _ _ _ _ => trivial) n b1 l r h2).1
  have h4 := (getN_ok h1).2.2.2
  simp only [Nat.reducePow] at h4
  omega
theorem all_cnt {b r : B} {l : List Stm} (h : getAll b = .ok (l, r)) : l.length ≤ 1048576 ∧ ∀ x ∈ l, x.values.length ≤ 1048576 := by
  obtain ⟨n, b1, h1, h2⟩ := bindR_inv h
  obtain ⟨h3, h5⟩ := ms_each (P := fun x : Stm => x.values.length ≤ 1048576) (fun _ _ _ h => stm_cnt h) n b1 l r h2
  have h4 := (getN_ok h1).2.2.2
  simp only [Nat.reducePow] at h4
  exact ⟨by omega, h5⟩
theorem rqL_none (op : Nat) : RqL (Rq.of op) := ⟨Nat.zero_le _, Nat.zero_le _, Nat.zero_le _, Nat.zero_le _, Nat.zero_le _, fun x hx => by cases hx⟩
theorem got_rqL {op : Nat} {b : B} {q : Rq} (h : getRq op b = .ok q) : RqL q := by
  unfold getRq at h
  cases hp : getParts op b with
  | error e => rw [hp] at h; cases h
  | ok p =>
    obtain ⟨x, r⟩ := p
    rw [hp] at h
    simp only at h
    split at h
    · injection h with h
      subst h
      unfold getParts at hp
      split at hp
      · obtain ⟨l, b1, h1, h2⟩ := bindR_inv hp
        injection h2 with h2; injection h2 with h3 h4; subst h3
        exact ⟨lst_cnt h1, Nat.zero_le _, Nat.zero_le _, Nat.zero_le _, Nat.zero_le _, fun x hx => by cases hx⟩
      split at hp
      · injection hp with h2; injection h2 with h3 h4; subst h3; exact rqL_none _
      split at hp
      · obtain ⟨s, b1, h1, h2⟩ := bindR_inv hp
        obtain ⟨p, b2, h3, h4⟩ := bindR_inv h2
        injection h4 with h4; injection h4 with h5 h6; subst h5
        exact ⟨Nat.zero_le _, Nat.zero_le _, Nat.zero_le _, (run_cnt h3).1, (run_cnt h3).2, fun x hx => by cases hx⟩
      split at hp
      · obtain ⟨s, b1, h1, h2⟩ := bindR_inv hp
        injection h2 with h2; injection h2 with h3 h4; subst h3
        exact ⟨Nat.zero_le _, Nat.zero_le _, Nat.zero_le _, Nat.zero_le _, Nat.zero_le _, fun x hx => by cases hx⟩
      split at hp
      · obtain ⟨s, b1, h1, h2⟩ := bindR_inv hp
        obtain ⟨p, b2, h3, h4⟩ := bindR_inv h2
        injection h4 with h4; injection h4 with h5 h6; subst h5
        exact ⟨Nat.zero_le _, Nat.zero_le _, Nat.zero_le _, (run_cnt h3).1, (run_cnt h3).2, fun x hx => by cases hx⟩
      split at hp
      · obtain ⟨l, b1, h1, h2⟩ := bindR_inv hp
        injection h2 with h2; injection h2 with h3 h4; subst h3
        exact ⟨Nat.zero_le _, lst_cnt h1, Nat.zero_le _, Nat.zero_le _, Nat.zero_le _, fun x hx => by cases hx⟩
      split at hp
      · obtain ⟨s, b1, h1, h2⟩ := bindR_inv hp
        injection h2 with h2; injection h2 with h3 h4; subst h3
        exact ⟨Nat.zero_le _, Nat.zero_le _, Nat.zero_le _, Nat.zero_le _, Nat.zero_le _, fun x hx => by cases hx⟩
      split at hp
      · obtain ⟨k, b1, h1, h2⟩ := bindR_inv hp
        split at h2
        · cases h2
        · obtain ⟨l, b2, h3, h4⟩ := bindR_inv h2
          obtain ⟨p, b3, h5, h6⟩ := bindR_inv h4
          injection h6 with h6; injection h6 with h7 h8; subst h7
          exact ⟨Nat.zero_le _, Nat.zero_le _, (all_cnt h3).1, (run_cnt h5).1, (run_cnt h5).2, (all_cnt h3).2⟩
      · cases hp
    · cases h
end Sb
namespace Go.Proofs.Sb
open Go.RowKit _root_.Sb
theorem rqOf_rqL {op : Nat} {b : B} {r : Except Int Rq} (h : getRq op b = r) : RqL (rqOf r) := by
  cases r with
  | error e => exact rqL_none 0
  | ok q => exact got_rqL h
end Go.Proofs.Sb
