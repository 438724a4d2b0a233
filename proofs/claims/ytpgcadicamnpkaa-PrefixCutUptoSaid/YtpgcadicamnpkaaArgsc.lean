/- Arguments that are rows of texts, pairs, multis, entries, rows of rows: opened. No conditions. -/
import Derived.Test.YtpgcadicamnpkaaArgsb
import Derived.Test.YtpgcadicamnpkaaMapsd
set_option linter.unusedVariables false
set_option linter.unusedSimpArgs false
namespace Go.Proofs.Sb
open Go.RowKit _root_.Sb
open Go.ChangeShapes Go.WideShapes Go.ChangeAt
set_option maxRecDepth 100000

section
variable {H : Type} {enc : TypeId × Value → H} {W : World} {base : Nat} {sp : Nat → Bool}
theorem str_elt {n : Nat} {cs : List Value} {x : DataW H × List MemPlace} (h : DataW.trod enc Try.prog W base sp true n 9 cs = some x) : ∃ y, strP y cs := by
  obtain ⟨s, rfl, _, hs⟩ := DataW.trod_string Try.underlying9 h
  obtain ⟨bs, rfl⟩ := str_ex s
  rw [str_size] at hs
  unfold maxLen at hs
  exact ⟨bs, rfl, by omega⟩
theorem strs_elt {n : Nat} {cs : List Value} {x : DataW H × List MemPlace} (h : DataW.trod enc Try.prog W base sp true n 23 cs = some x) : ∃ A n c l, cs = [.slice A n c] ∧ Arr 1 strP (fun _ => True) W A n c l :=
  arr_of_trod Try.underlying23 (by kernel_rfl) (by decide) (fun _ _ _ h => str_elt h) h
theorem bytes_elt {n : Nat} {cs : List Value} {x : DataW H × List MemPlace} (h : DataW.trod enc Try.prog W 0 (fun _ => true) true n 22 cs = some x) : ∃ A n c bs, cs = [.slice A n c] ∧ Sl (fun _ => True) W A n c bs := by
  obtain ⟨v, rfl⟩ : ∃ v, cs = [v] := by
    rcases Go.Deep.open_slice Try.underlying22 h with ⟨rfl, _⟩ | ⟨a, len, cap, m, n, D, Pl, rfl, _⟩ <;> exact ⟨_, rfl⟩
  obtain ⟨A, n, c, bs, rfl, hs⟩ := sl_of_trod h
  exact ⟨A, n, c, bs, rfl, hs⟩
/-- a field of a struct that came in -/
theorem field_of {t : TypeId} {fs : Array Field} {n : Nat} {cs : List Value} {x : DataW H × List MemPlace} (ht : Try.prog.underlying t = some (.struct fs)) (h : DataW.trod enc Try.prog W base sp true n t cs = some x) :
    cs.length = Try.prog.cellsOf t ∧ ∃ m, ∀ (i : Nat) (f : Field), fs[i]? = some f → ∃ y, DataW.trod enc Try.prog W base sp true m f.type ((cs.drop f.offset).take (Try.prog.cellsOf f.type)) = some y := by
  obtain ⟨xs, m, _, _, h1, h2, h3⟩ := DataW.trod_struct ht h
  refine ⟨h1, m, fun i f hf => ?_⟩
  have hi : i < fs.size := (Array.getElem?_eq_some_iff.1 hf).1
  exact ⟨xs[i], by rw [h3 i f hf]; exact List.getElem?_eq_getElem (by omega)⟩
theorem entry_elt {n : Nat} {cs : List Value} {x : DataW H × List MemPlace} (h : DataW.trod enc Try.prog W 0 (fun _ => true) true n 31 cs = some x) : ∃ y, entryP (fun _ => True) W y cs := by
  obtain ⟨hl, m, hf⟩ := field_of Try.underlying31 h
  have hl2 : cs.length = 3 := hl.trans (by kernel_rfl)
  obtain ⟨y0, h0⟩ := hf 0 _ rfl
  obtain ⟨y1, h1⟩ := hf 1 _ rfl
  obtain ⟨s0, e0, l0⟩ := str_elt h0
  obtain ⟨hl3, m2, hf2⟩ := field_of Try.underlying29 h1
  obtain ⟨y2, h2⟩ := hf2 0 _ rfl
  obtain ⟨y3, h3⟩ := hf2 1 _ rfl
  obtain ⟨k, e2, _⟩ := DataW.trod_int Try.underlying3 h2
  obtain ⟨A, n1, c, bs, e3, ha⟩ := bytes_elt h3
  have c1 : Try.prog.cellsOf 9 = 1 := by kernel_rfl
  have c2 : Try.prog.cellsOf 29 = 2 := by kernel_rfl
  have c3 : Try.prog.cellsOf 3 = 1 := by kernel_rfl
  have c4 : Try.prog.cellsOf 22 = 1 := by kernel_rfl
  match cs, hl2 with
  | [a, b, d], _ =>
    simp [c1, c2, c3, c4] at e0 e2 e3
    subst e0 e2 e3
    exact ⟨(s0, ⟨k, bs⟩), A, n1, c, rfl, l0, ha⟩
/-- a row of rows of texts: the cells of one -/
def rowP (S : Nat → Prop) (w : World) (p : List B) (v : List Value) : Prop := ∃ A n c, v = [.slice A n c] ∧ Arr 1 strP S w A n c p
theorem row_elt {n : Nat} {cs : List Value} {x : DataW H × List MemPlace} (h : DataW.trod enc Try.prog W base sp true n 23 cs = some x) : ∃ y, rowP (fun _ => True) W y cs := by
  obtain ⟨A, n, c, l, e, ha⟩ := strs_elt h
  exact ⟨l, A, n, c, e, ha⟩
end
section
variable {H : Type} {enc : TypeId × Value → H} {W : World} {r : Reach} {b0 : Nat} {v : Value} {d : DataW H} {p : List MemPlace}
theorem arr_of_arg {α : Type} {k : Nat} {P : α → List Value → Prop} {t e : TypeId} (ht : Try.prog.underlying t = some (.slice e)) (hk : Try.prog.cellsOf e = k) (hk0 : 0 < k)
    (hel : ∀ n cs x, DataW.trod enc Try.prog W 0 (fun _ => true) true n e cs = some x → ∃ y : α, P y cs)
    (hval : Value.okWide Try.prog W r b0 t v) (h : DataW.Trod enc Try.prog W 0 (fun _ => true) true t v d p) : ∃ A n c l, v = .slice A n c ∧ Arr k P (fun _ => True) W A n c l := by
  obtain ⟨a0, len0, cap0, rfl⟩ := okWide_slice ht hval
  obtain ⟨fuel, hf⟩ := h
  obtain ⟨A, n, c, l, he, ha⟩ := arr_of_trod ht hk hk0 hel hf
  have hc : [Value.slice a0 len0 cap0] = [Value.slice A n c] := he
  injection hc with hc
  exact ⟨A, n, c, l, hc, ha⟩
theorem texts_of (hval : Value.okWide Try.prog W r b0 23 v) (h : DataW.Trod enc Try.prog W 0 (fun _ => true) true 23 v d p) : ∃ A n c l, v = .slice A n c ∧ Arr 1 strP (fun _ => True) W A n c l :=
  arr_of_arg Try.underlying23 (by kernel_rfl) (by decide) (fun _ _ _ h => str_elt h) hval h
theorem entries_of (hval : Value.okWide Try.prog W r b0 24 v) (h : DataW.Trod enc Try.prog W 0 (fun _ => true) true 24 v d p) : ∃ A n c l, v = .slice A n c ∧ Arr 3 (entryP (fun _ => True) W) (fun _ => True) W A n c l :=
  arr_of_arg Try.underlying24 (by kernel_rfl) (by decide) (fun _ _ _ h => entry_elt h) hval h
end
end Go.Proofs.Sb
