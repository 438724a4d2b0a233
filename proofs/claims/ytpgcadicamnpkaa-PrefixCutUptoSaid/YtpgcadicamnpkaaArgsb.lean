/- Arguments that are slices of elements of any kind, opened. No conditions. -/
import Derived.Test.YtpgcadicamnpkaaArgs
import Derived.Test.YtpgcadicamnpkaaArr
import Derived.Deep.Slices
set_option linter.unusedVariables false
set_option linter.unusedSimpArgs false
namespace Go.Proofs.Sb
open Go.RowKit _root_.Sb
open Go.ChangeShapes Go.WideShapes Go.ChangeAt

theorem flat_get {k : Nat} (f : Nat → List Value) : ∀ (n o i j : Nat), (∀ i, i < n → (f (o + i)).length = k) → i < n → j < k → ((List.range' o n).flatMap f)[i * k + j]? = (f (o + i))[j]?
  | 0, _, _, _, _, h, _ => absurd h (Nat.not_lt_zero _)
  | n + 1, o, 0, j, hl, _, hj => by
    have h0 := hl 0 (by omega)
    simp only [Nat.add_zero] at h0
    simp only [List.range'_succ, List.flatMap_cons, Nat.zero_mul, Nat.zero_add, Nat.add_zero]
    rw [List.getElem?_append_left (by omega)]
  | n + 1, o, i + 1, j, hl, hi, hj => by
    have h0 := hl 0 (by omega)
    simp only [Nat.add_zero] at h0
    have ih := flat_get f n (o + 1) i j (fun i hi => by have := hl (i + 1) (by omega); rwa [show o + 1 + i = o + (i + 1) from by omega]) (by omega) hj
    simp only [List.range'_succ, List.flatMap_cons]
    rw [List.getElem?_append_right (by rw [h0, Nat.add_mul]; omega), h0]
    have e : (i + 1) * k + j - k = i * k + j := by rw [Nat.add_mul]; omega
    rw [e, ih, show o + 1 + i = o + (i + 1) from by omega]
theorem choose_list {α : Type} {p : Nat → α → Prop} : ∀ n : Nat, (∀ i, i < n → ∃ x, p i x) → ∃ l : List α, l.length = n ∧ ∀ i x, l[i]? = some x → p i x
  | 0, _ => ⟨[], rfl, fun i x h => by simp at h⟩
  | n + 1, h => by
    obtain ⟨l, hl, hp⟩ := choose_list n fun i hi => h i (by omega)
    obtain ⟨x, hx⟩ := h n (by omega)
    refine ⟨l ++ [x], by simp [hl], fun i y hy => ?_⟩
    by_cases hi : i < n
    · rw [List.getElem?_append_left (by omega)] at hy; exact hp i y hy
    · by_cases hin : i = n
      · subst hin
        rw [List.getElem?_append_right (by omega)] at hy
        simp [hl] at hy
        subst hy
        exact hx
      · rw [List.getElem?_eq_none (by simp; omega)] at hy
        cases hy

section
variable {H : Type} {enc : TypeId × Value → H} {W : World} {base : Nat} {sp : Nat → Bool}
/-- a slice of elements that came in, opened element by element -/
theorem arr_of_trodQ {α : Type} {k : Nat} {P : α → List Value → Prop} {t e : TypeId} (ht : Try.prog.underlying t = some (.slice e)) (hk : Try.prog.cellsOf e = k) (hk0 : 0 < k) (Q : DataW H → Prop)
    (hel : ∀ n cs x, Q x.1 → DataW.trod enc Try.prog W base sp true n e cs = some x → ∃ y : α, P y cs)
    {fuel : Nat} {cs : List Value} {x : DataW H × List MemPlace} (hQ : ∀ els spare, x.1 = .slice els spare → ∀ d ∈ els, Q d) (hf : DataW.trod enc Try.prog W base sp true fuel t cs = some x) :
    ∃ A n c l, cs = [.slice A n c] ∧ Arr k P (fun _ => True) W A n c l := by
  rcases Go.Deep.open_slice ht hf with ⟨rfl, _⟩ | ⟨a, len, cap, m, n, D, Pl, rfl, hb, hl, hm, hmm, rfl, hx⟩
  · exact ⟨none, 0, 0, [], rfl, Arr.nil⟩
  · have hlm : len ≤ m := by rw [hmm]; split <;> omega
    obtain ⟨q, hq, hqp⟩ := choose_list (α := α × List Value) (p := fun i y => P y.1 y.2 ∧ y.2.length = k ∧ ∀ j, j < k → W.cell? ((a.add (i * k)).add j) = y.2[j]?) len fun i hi => by
      obtain ⟨cs', h1, h2⟩ := hx i (by omega)
      obtain ⟨y, hy⟩ := hel _ _ _ (hQ _ _ rfl (D i) (List.mem_map.2 ⟨i, List.mem_range.2 hi, rfl⟩)) h2
      rw [hk] at h1
      obtain ⟨_, h3, h4⟩ := World.cells?_some h1
      exact ⟨(y, cs'), hy, h3, h4⟩
    have hgt : ∀ i, i < len → ∃ x, q[i]? = some x := fun i hi => ⟨q[i], List.getElem?_eq_getElem (by omega)⟩
    let f : Nat → List Value := fun i => ((q[i]?).map (·.2)).getD []
    have hfe : ∀ i x, q[i]? = some x → f i = x.2 := fun i x h => by simp [f, h]
    have hlen : ∀ i, i < len → (f i).length = k := fun i hi => by obtain ⟨x, h⟩ := hgt i hi; rw [hfe i x h]; exact (hqp i x h).2.1
    refine ⟨some a, len, cap, q.map (·.1), rfl, by simp [hq], hl, hm, (List.range' 0 (q.map (·.1)).length).flatMap f, Els.mk _ f 0 fun i x hix => ?_, fun hn => ?_⟩
    · rw [List.getElem?_map] at hix
      cases hqi : q[i]? with
      | none => rw [hqi] at hix; cases hix
      | some y =>
        rw [hqi] at hix
        injection hix with hix
        subst hix
        rw [Nat.zero_add, hfe i y hqi]
        exact ⟨(hqp i y hqi).2.1, (hqp i y hqi).1⟩
    · have hl0 : 0 < len := by
        rcases Nat.eq_zero_or_pos len with h | h
        · exfalso; apply hn; simp [hq, h]
        · exact h
      obtain ⟨y0, hy0⟩ := hgt 0 hl0
      have h00 := (hqp 0 y0 hy0).2.2 0 hk0
      have hy1 := (hqp 0 y0 hy0).2.1
      rw [List.getElem?_eq_getElem (by omega)] at h00
      obtain ⟨b, off, spot⟩ := a
      have hspot : spot = none := by simpa [Addr.add] using World.cell?_spot h00
      subst hspot
      refine ⟨b, off, rfl, trivial, World.block_lt_of_cell? W ⟨b, off, none⟩ (by simpa [Addr.add] using h00), fun j u hu => ?_⟩
      have hjl : j < len * k := by
        have := (List.getElem?_eq_some_iff.1 hu).1
        have h2 : ((List.range' 0 (q.map (·.1)).length).flatMap f).length = len * k := by
          have : Els k P (q.map (·.1)) ((List.range' 0 (q.map (·.1)).length).flatMap f) := Els.mk _ f 0 fun i x hix => by
            rw [List.getElem?_map] at hix
            cases hqi : q[i]? with
            | none => rw [hqi] at hix; cases hix
            | some y =>
              rw [hqi] at hix
              injection hix with hix
              subst hix
              rw [Nat.zero_add, hfe i y hqi]
              exact ⟨(hqp i y hqi).2.1, (hqp i y hqi).1⟩
          rw [this.length]; simp [hq]
        omega
      have hi : j / k < len := Nat.div_lt_of_lt_mul (by rw [Nat.mul_comm]; exact hjl)
      have hr : j % k < k := Nat.mod_lt _ hk0
      have hj : j = j / k * k + j % k := by rw [Nat.mul_comm]; exact (Nat.div_add_mod j k).symm
      have g := flat_get (k := k) f (q.map (·.1)).length 0 (j / k) (j % k) (fun i hi => by rw [Nat.zero_add]; exact hlen i (by simpa [hq] using hi)) (by simpa [hq] using hi) hr
      rw [← hj, Nat.zero_add] at g
      rw [g] at hu
      obtain ⟨y, hy⟩ := hgt (j / k) hi
      rw [hfe _ y hy] at hu
      have h1 := (hqp _ y hy).2.2 (j % k) hr
      rw [hu, Addr.add_lit, Addr.add_lit] at h1
      rw [hj, ← Nat.add_assoc]
      exact h1
theorem arr_of_trod {α : Type} {k : Nat} {P : α → List Value → Prop} {t e : TypeId} (ht : Try.prog.underlying t = some (.slice e)) (hk : Try.prog.cellsOf e = k) (hk0 : 0 < k)
    (hel : ∀ n cs x, DataW.trod enc Try.prog W base sp true n e cs = some x → ∃ y : α, P y cs)
    {fuel : Nat} {cs : List Value} {x : DataW H × List MemPlace} (hf : DataW.trod enc Try.prog W base sp true fuel t cs = some x) :
    ∃ A n c l, cs = [.slice A n c] ∧ Arr k P (fun _ => True) W A n c l :=
  arr_of_trodQ ht hk hk0 (fun _ => True) (fun n cs x _ h => hel n cs x h) (fun _ _ _ _ _ => trivial) hf
end
end Go.Proofs.Sb
