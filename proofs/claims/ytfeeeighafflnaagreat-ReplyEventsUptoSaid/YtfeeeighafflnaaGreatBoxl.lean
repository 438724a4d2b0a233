/- Words for boxes of many cells, read and written as a whole. No conditions. -/
import Derived.Test.YtfeeeighafflnaaGreatRole
import Derived.Deep.MidRow
import Derived.Deep.WholeRow
import Derived.Laws.ResultCell
set_option linter.unusedVariables false
set_option linter.unusedSimpArgs false
namespace Go.Proofs.Sb
open Go.RowKit _root_.Sb

section
variable {P : Program} {ops : Array Oper} {rest : List Oper} {o : Oper} {a : Act} {w : World} {Q : Exit → Act → World → Prop}
/-- a struct built: its cells -/
theorem wpList_built (hg : o.guard = none) (t : TypeId) (parts : Array (Nat × Operand)) (ho : o.op = .build t parts) (cells : Array Value)
    (hf : P.built t (parts.map fun (i, x) => (i, a.eval x)).toList = some cells) (h : wpList P ops Q rest (a.put o.dst (.agg cells)) w) : wpList P ops Q (o :: rest) a w := by
  refine wpList_build hg t parts ho (by rw [hf]; rfl) ?_
  rw [hf]
  exact h
/-- a struct into the block that was made last -/
theorem wpList_store_new (hgd : o.guard = none) (ty : TypeId) (x y : Operand) (ho : o.op = .store ty x y) (W : World) (t : TypeId) (old cells : Array Value) (hw : w = W.alloc (.cells old t))
    {g : Nat} (hx : a.eval x = .pointer (some ⟨g, 0, none⟩)) (hgW : g = W.heap.size) (hy : a.eval y = .agg cells) (hi : (P.info? ty).map (·.size) = some cells.toList.length)
    (hold : old.toList.length = cells.toList.length) (h1 : cells.toList.all (·.oneCell') = true)
    (h : ∀ w', w' = W.alloc (.cells cells t) → wpList P ops Q rest (a.put o.dst undef) w') : wpList P ops Q (o :: rest) a w := by
  subst hw hgW
  refine wpList_store_row hgd ty x y ho W.heap.size cells hx hy t old (heap_alloc_last W _) (by simpa using hi) (by simpa using hold) (by rw [← Array.all_toList]; exact h1) ?_
  rw [World.setRow_alloc_new]
  exact h _ rfl
/-- the same: the world behind it has a name -/
theorem wpList_store_newB (hgd : o.guard = none) (ty : TypeId) (x y : Operand) (ho : o.op = .store ty x y) (W : World) (t : TypeId) (old cells : Array Value) (hw : w = W.alloc (.cells old t))
    {g : Nat} (hx : a.eval x = .pointer (some ⟨g, 0, none⟩)) (hgW : g = W.heap.size) (hy : a.eval y = .agg cells) (hi : (P.info? ty).map (·.size) = some cells.toList.length)
    (hold : old.toList.length = cells.toList.length) (h1 : cells.toList.all (·.oneCell') = true)
    (h : ∀ w', Below W.heap.size W w' → w'.heap.size = W.heap.size + 1 → Bx (fun b => b = W.heap.size) w' W.heap.size cells.toList → wpList P ops Q rest (a.put o.dst undef) w') : wpList P ops Q (o :: rest) a w :=
  wpList_store_new hgd ty x y ho W t old cells hw hx hgW hy hi hold h1 fun w' e => h w' (by rw [e]; exact (Below.refl _ _).alloc (Nat.le_refl _) _) (by rw [e]; exact World.size_alloc _ _) (by rw [e]; exact Bx.alloc W cells t (S := fun b => b = W.heap.size) rfl rfl)
theorem Bx.range {S : Nat → Prop} {w : World} {X : Nat} {vs : List Value} (h : Bx S w X vs) : w.rangeAt X 0 vs := fun j v e => by
  rw [Nat.zero_add]; exact h.c j v e
theorem Bx.range_at {S : Nat → Prop} {w : World} {X : Nat} {vs : List Value} (h : Bx S w X vs) {o : Nat} {us : List Value} (hu : (vs.drop o).take us.length = us) : w.rangeAt X o us := fun j v e => by
  refine h.c (o + j) v ?_
  have hj : j < us.length := (List.getElem?_eq_some_iff.1 e).1
  rw [← hu, List.getElem?_take, if_pos hj, List.getElem?_drop] at e
  exact e
theorem Bx.there {S : Nat → Prop} {w : World} {X : Nat} {vs : List Value} (h : Bx S w X vs) {o n : Nat} (hn : o + n ≤ vs.length) : w.there X o n := fun j hj => by
  refine ⟨?_, h.fr _⟩
  rw [h.c (o + j) _ (List.getElem?_eq_getElem (by omega))]
  rfl
theorem growCells (X : Nat) : ∀ (us : List Value) (o : Nat) (w : World), w.grownBy (w.setCells X o us) (some X) := by
  intro us
  induction us with
  | nil => intro o w; exact grow_of_below (row := some X) (Below.refl _ _)
  | cons u us ih => intro o w; exact grow_seq (grow_setCell w X o u) (ih (o + 1) _) fun j e => .inr e
theorem setCells_size (X : Nat) : ∀ (us : List Value) (o : Nat) (w : World), (w.setCells X o us).heap.size = w.heap.size := by
  intro us
  induction us with
  | nil => intro o w; rfl
  | cons u us ih => intro o w; rw [World.setCells, ih]; simp
/-- cells into a box -/
theorem Bx.puts {S : Nat → Prop} {w : World} {X : Nat} {vs : List Value} (h : Bx S w X vs) (o : Nat) (us : List Value) (hn : o + us.length ≤ vs.length) : Bx S (w.setCells X o us) X (vs.take o ++ us ++ vs.drop (o + us.length)) := by
  refine ⟨h.role, by rw [setCells_size]; exact h.lt, fun i v e => ?_, fun i => by rw [World.frozen?_setCells]; exact h.fr i⟩
  rcases Nat.lt_or_ge i o with h1 | h1
  · have hq : vs[i]? = some v := by
      rw [List.append_assoc, List.getElem?_append_left (by rw [List.length_take]; omega), List.getElem?_take, if_pos h1] at e
      exact e
    have := World.rangeAt_setCells_apart (w := w) (b' := X) (o' := i) (cs := [v]) (fun j x ej => by
      cases j with
      | zero => injection ej with ej; subst ej; exact h.c i v hq
      | succ j => cases ej) X o us (.inr (.inl (by show i + 1 ≤ o; omega))) 0 v rfl
    exact this
  · rcases Nat.lt_or_ge i (o + us.length) with h2 | h2
    · have hq : us[i - o]? = some v := by
        rw [List.getElem?_append_left (by simp only [List.length_append, List.length_take]; omega), List.getElem?_append_right (by rw [List.length_take]; omega), List.length_take] at e
        rw [← e]; congr 1; omega
      have := World.rangeAt_setCells_same w X o us (h.there hn) (i - o) v hq
      rw [show o + (i - o) = i by omega] at this
      exact this
    · have hq : vs[i]? = some v := by
        rw [List.getElem?_append_right (by simp only [List.length_append, List.length_take]; omega), List.getElem?_drop] at e
        simp only [List.length_append, List.length_take] at e
        rw [← e]; congr 1; omega
      have := World.rangeAt_setCells_apart (w := w) (b' := X) (o' := i) (cs := [v]) (fun j x ej => by
        cases j with
        | zero => injection ej with ej; subst ej; exact h.c i v hq
        | succ j => cases ej) X o us (.inr (.inr h2)) 0 v rfl
      exact this
/-- a box read as a whole -/
theorem wpList_loadB {S : Nat → Prop} {X : Nat} {vs : List Value} (hB : Bx S w X vs) (hgd : o.guard = none) (ty : TypeId) (x : Operand) (ho : o.op = .load ty x) (hx : a.eval x = .pointer (some ⟨X, 0, none⟩)) (d : TypeDesc)
    (hu : P.underlying ty = some d) (hd : d.isRow = true) (hi : (P.info? ty).map (·.size) = some vs.length)
    (h : wpList P ops Q rest (a.put o.dst (.agg vs.toArray)) w) : wpList P ops Q (o :: rest) a w := wpList_load_mid hgd ty x ho X 0 hx vs d hB.range hu hd hi h
/-- a box written as a whole: the world behind it has a name -/
theorem wpList_storeB {S : Nat → Prop} {X : Nat} {vs : List Value} (hB : Bx S w X vs) (hgd : o.guard = none) (ty : TypeId) (x y : Operand) (ho : o.op = .store ty x y) (i : Nat) (us : List Value) (hx : a.eval x = .pointer (some ⟨X, i, none⟩)) (hy : a.eval y = .agg us.toArray)
    (hi : (P.info? ty).map (·.size) = some us.length) (hl : i + us.length ≤ vs.length) (h1 : us.all (·.oneCell') = true)
    (h : ∀ w', Bx S w' X (vs.take i ++ us ++ vs.drop (i + us.length)) → w.grownBy w' (some X) → wpList P ops Q rest (a.put o.dst undef) w') : wpList P ops Q (o :: rest) a w := by
  refine wpList_store_mid hgd ty x y ho X i us.toArray hx hy (by simpa using hB.there hl) (by simpa using hi) (by rw [← Array.all_toList]; exact h1) ?_
  exact h _ (hB.puts i us hl) (growCells X us i w)
/-- the same in a region that draws its order -/
theorem step_storeB {K : Act → World → Prop} {E : Prop} {S : Nat → Prop} {X : Nat} {vs : List Value} (hB : Bx S w X vs) (hgd : o.guard = none) (ty : TypeId) (x y : Operand) (ho : o.op = .store ty x y) (i : Nat) (us : List Value) (hx : a.eval x = .pointer (some ⟨X, i, none⟩)) (hy : a.eval y = .agg us.toArray)
    (hi : (P.info? ty).map (·.size) = some us.length) (hl : i + us.length ≤ vs.length) (h1 : us.all (·.oneCell') = true)
    (h : ∀ w', Bx S w' X (vs.take i ++ us ++ vs.drop (i + us.length)) → w.grownBy w' (some X) → K (a.put o.dst undef) w') : if Region.wanted o (yielded ops a.tmps) = true then Oper.wp P o a w K Q else E := by
  have hw : Region.wanted o (yielded ops a.tmps) = true := by simp [Region.wanted, hgd]
  rw [if_pos hw]
  refine wp_store_mid ty x y ho X i us.toArray hx hy (by simpa using hB.there hl) (by simpa using hi) (by rw [← Array.all_toList]; exact h1) ?_
  exact h _ (hB.puts i us hl) (growCells X us i w)
/-- a function whose first result lies in a box, its second in a slot -/
theorem results_box {S : Nat → Prop} {fn : Func} {p u : Tmp} {ty : TypeId} (h : fn.results = #[.cell p ty, .tmp u]) {X : Nat} {vs : List Value} (hB : Bx S w X vs) {tmps : Array Value} (hp : tmps.getD p undef = .pointer (some ⟨X, 0, none⟩)) {x : Value} (hx : tmps.getD u undef = x) (d : TypeDesc)
    (hu : P.underlying ty = some d) (hd : d.isRow = true) (hi : (P.info? ty).map (·.size) = some vs.length) : (results fn tmps).run P w = .ok (.tuple #[.agg vs.toArray, x]) w := by
  have h1 := run_loadVar_mid (P := P) w X 0 ty vs d hB.range hu hd hi
  rw [results_cell_tmp h, hp, hx]
  simp only [asAddr, Sem.run_pure, Result.andThen_ok, h1]
theorem below_of_grown {w w' : World} {X : Nat} (h : w.grownBy w' (some X)) (hX : w.heap.size ≤ X) : Below w.heap.size w w' := ⟨h.os, h.tape, h.output, h.size, fun b hb => h.block b hb (fun e => by injection e with e; omega)⟩
end
end Go.Proofs.Sb
