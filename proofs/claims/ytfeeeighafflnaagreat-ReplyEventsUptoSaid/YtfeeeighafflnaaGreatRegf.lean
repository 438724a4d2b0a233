/- A region that draws its order and writes into blocks of a set T: what lies in no such block stays as it was; a box loaded within it. No conditions. -/
import Derived.Test.YtfeeeighafflnaaGreatReg
import Derived.Test.YtfeeeighafflnaaGreatRole
import Derived.Test.YtfeeeighafflnaaGreatBoxl
import Derived.Says
set_option linter.unusedVariables false
set_option linter.unusedSimpArgs false
namespace Go.Proofs.Sb
open Go.RowKit _root_.Sb

theorem regf_start {P : Program} {ops : Array Oper} {Q : Exit → Act → World → Prop} {id : Nat} {a : Act} {w : World} (T : Nat → Prop) (hm : P.follows .mixedOrders = true)
    (h : wpAnyH P .any ops Q (Fr T w.drew) ops.size (Array.replicate ops.size false) a w.drew) : (Code.region id ops true).wp P Q a w :=
  wp_region_held hm h
theorem regf_call {P : Program} {md : Region.Mode} {l : List Oper} {Q : Exit → Act → World → Prop} {T : Nat → Prop} {W : World} {fuel : Nat} {listed : Array Bool} {a : Act} (i : Nat) {o : Oper}
    (hr : Region.ready md l.toArray listed = [i]) (ho : nth l i = some o)
    (h : ∀ K : Act → World → Prop, Shut (∀ a w', Fr T W w' → wpAnyH P md l.toArray Q (Fr T w') fuel (listed.setIfInBounds i true) a w' → K a w') → if Region.wanted o (yielded l.toArray a.tmps) = true then Oper.wp P o a W K Q else K (a.put o.dst undef) W) :
    wpAnyH P md l.toArray Q (Fr T W) (fuel + 1) listed a W := by
  refine wpAnyH_all hr (by simp) fun j hj => ?_
  obtain rfl : j = i := by simpa using hj
  exact wpOp_step (nth_ops ho) fun K hK => h K fun a w' hw' h' => hK a w' ⟨hw', wpAnyH_imp (fun w h => hw'.trans h) _ _ _ _ h'⟩
theorem regf_two {P : Program} {md : Region.Mode} {l : List Oper} {Q : Exit → Act → World → Prop} {T : Nat → Prop} {W : World} {fuel : Nat} {listed : Array Bool} {a : Act} (i j : Nat) {o p : Oper}
    (hr : Region.ready md l.toArray listed = [i, j]) (ho : nth l i = some o) (hp : nth l j = some p)
    (h : ∀ K : Act → World → Prop, Shut (∀ a w', Fr T W w' → wpAnyH P md l.toArray Q (Fr T w') fuel (listed.setIfInBounds i true) a w' → K a w') → if Region.wanted o (yielded l.toArray a.tmps) = true then Oper.wp P o a W K Q else K (a.put o.dst undef) W)
    (k : ∀ K : Act → World → Prop, Shut (∀ a w', Fr T W w' → wpAnyH P md l.toArray Q (Fr T w') fuel (listed.setIfInBounds j true) a w' → K a w') → if Region.wanted p (yielded l.toArray a.tmps) = true then Oper.wp P p a W K Q else K (a.put p.dst undef) W) :
    wpAnyH P md l.toArray Q (Fr T W) (fuel + 1) listed a W := by
  refine wpAnyH_all hr (by simp) fun x hx => ?_
  simp only [List.mem_cons, List.not_mem_nil, or_false] at hx
  rcases hx with rfl | rfl
  · exact wpOp_step (nth_ops ho) fun K hK => h K fun a w' hw' h' => hK a w' ⟨hw', wpAnyH_imp (fun w h => hw'.trans h) _ _ _ _ h'⟩
  · exact wpOp_step (nth_ops hp) fun K hK => k K fun a w' hw' h' => hK a w' ⟨hw', wpAnyH_imp (fun w h => hw'.trans h) _ _ _ _ h'⟩
theorem regf_take {P : Program} {md : Region.Mode} {l : List Oper} {Q : Exit → Act → World → Prop} {T : Nat → Prop} {W : World} {fuel : Nat} {listed : Array Bool} {a : Act} (i : Nat) {oi : Oper} {v : Value} (hi : nth l i = some oi)
    (hs : Region.noSelect l.toArray = true) (hf : Region.free md l.toArray listed i = true) (hr : (Region.ready md l.toArray listed).contains i = true)
    (hQ : ∀ c a w, Q (.panic c) (a.put oi.dst v) w → Q (.panic c) a w) (hw : Region.wanted oi (yielded l.toArray a.tmps) = true) (hy : ∀ w, Fr T W w → (execOp a.eval oi).run P w = .ok (.value v) w)
    (h : wpAnyH P md l.toArray Q (Fr T W) fuel (listed.setIfInBounds i true) (a.put oi.dst v) W) : wpAnyH P md l.toArray Q (Fr T W) (fuel + 1) listed a W :=
  wpAnyH_take (nth_ops hi) hs hf hr hQ (.inl ⟨hw, hy⟩) (Fr.refl T W) h
theorem regf_skip {P : Program} {md : Region.Mode} {l : List Oper} {Q : Exit → Act → World → Prop} {T : Nat → Prop} {W : World} {fuel : Nat} {listed : Array Bool} {a : Act} (i : Nat) {oi : Oper} (hi : nth l i = some oi)
    (hs : Region.noSelect l.toArray = true) (hf : Region.free md l.toArray listed i = true) (hr : (Region.ready md l.toArray listed).contains i = true)
    (hQ : ∀ c a w, Q (.panic c) (a.put oi.dst undef) w → Q (.panic c) a w) (hw : Region.wanted oi (yielded l.toArray a.tmps) = false)
    (h : wpAnyH P md l.toArray Q (Fr T W) fuel (listed.setIfInBounds i true) (a.put oi.dst undef) W) : wpAnyH P md l.toArray Q (Fr T W) (fuel + 1) listed a W :=
  wpAnyH_take (nth_ops hi) hs hf hr hQ (.inr ⟨hw, rfl⟩) (Fr.refl T W) h
/-- what a cell holds, at each world behind -/
theorem Fr.each {T : Nat → Prop} {W : World} {b o : Nat} {v : Value} (hb : ¬ T b) (h : W.cell? ⟨b, o, none⟩ = some v) : ∀ w, Fr T W w → w.cell? ⟨b, o, none⟩ = some v :=
  fun w hw => hw.cell hb h
theorem regf_three {P : Program} {md : Region.Mode} {l : List Oper} {Q : Exit → Act → World → Prop} {T : Nat → Prop} {W : World} {fuel : Nat} {listed : Array Bool} {a : Act} (i j k : Nat) {o p q : Oper}
    (hr : Region.ready md l.toArray listed = [i, j, k]) (ho : nth l i = some o) (hp : nth l j = some p) (hq : nth l k = some q)
    (h1 : ∀ K : Act → World → Prop, Shut (∀ a w', Fr T W w' → wpAnyH P md l.toArray Q (Fr T w') fuel (listed.setIfInBounds i true) a w' → K a w') → if Region.wanted o (yielded l.toArray a.tmps) = true then Oper.wp P o a W K Q else K (a.put o.dst undef) W)
    (h2 : ∀ K : Act → World → Prop, Shut (∀ a w', Fr T W w' → wpAnyH P md l.toArray Q (Fr T w') fuel (listed.setIfInBounds j true) a w' → K a w') → if Region.wanted p (yielded l.toArray a.tmps) = true then Oper.wp P p a W K Q else K (a.put p.dst undef) W)
    (h3 : ∀ K : Act → World → Prop, Shut (∀ a w', Fr T W w' → wpAnyH P md l.toArray Q (Fr T w') fuel (listed.setIfInBounds k true) a w' → K a w') → if Region.wanted q (yielded l.toArray a.tmps) = true then Oper.wp P q a W K Q else K (a.put q.dst undef) W) :
    wpAnyH P md l.toArray Q (Fr T W) (fuel + 1) listed a W := by
  refine wpAnyH_all hr (by simp) fun x hx => ?_
  simp only [List.mem_cons, List.not_mem_nil, or_false] at hx
  rcases hx with rfl | rfl | rfl
  · exact wpOp_step (nth_ops ho) fun K hK => h1 K fun a w' hw' h' => hK a w' ⟨hw', wpAnyH_imp (fun w h => hw'.trans h) _ _ _ _ h'⟩
  · exact wpOp_step (nth_ops hp) fun K hK => h2 K fun a w' hw' h' => hK a w' ⟨hw', wpAnyH_imp (fun w h => hw'.trans h) _ _ _ _ h'⟩
  · exact wpOp_step (nth_ops hq) fun K hK => h3 K fun a w' hw' h' => hK a w' ⟨hw', wpAnyH_imp (fun w h => hw'.trans h) _ _ _ _ h'⟩
/-- a new block of cells: the world behind it has a name -/
theorem Fr.of_one {T : Nat → Prop} {w w' : World} {X : Nat} (h : w.grownBy w' (some X)) (hX : T X) : Fr T w w' := Fr.of_grown h fun b e => by injection e with e; subst e; exact hX
theorem Below.grown1 {N : Nat} {a b c : World} {X : Nat} (h : Below N a b) (hg : b.grownBy c (some X)) (hN : N ≤ b.heap.size) (hX : N ≤ X) : Below N a c := Below.grown h hg hN fun k e => by injection e with e; subst e; exact hX
theorem step_loadB {P : Program} {ops : Array Oper} {o : Oper} {a : Act} {w : World} {Q : Exit → Act → World → Prop} {K : Act → World → Prop} {E : Prop} {S : Nat → Prop} {X : Nat} {vs : List Value} (hB : Bx S w X vs) (hgd : o.guard = none) (ty : TypeId) (x : Operand) (ho : o.op = .load ty x) (hx : a.eval x = .pointer (some ⟨X, 0, none⟩)) (d : TypeDesc)
    (hu : P.underlying ty = some d) (hd : d.isRow = true) (hi : (P.info? ty).map (·.size) = some vs.length) (h : K (a.put o.dst (.agg vs.toArray)) w) : if Region.wanted o (yielded ops a.tmps) = true then Oper.wp P o a w K Q else E := by
  have hw : Region.wanted o (yielded ops a.tmps) = true := by simp [Region.wanted, hgd]
  rw [if_pos hw]
  exact wp_load_mid ty x ho X 0 hx vs d hB.range hu hd hi h
end Go.Proofs.Sb
