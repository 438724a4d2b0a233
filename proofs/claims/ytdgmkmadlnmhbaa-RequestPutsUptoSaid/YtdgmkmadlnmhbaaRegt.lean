/- A region that draws its order, walked where its loads and its changes stand in either order. No conditions. -/
import Derived.Test.YtdgmkmadlnmhbaaReg
set_option linter.unusedVariables false
set_option linter.unusedSimpArgs false
namespace Go.Proofs.Sb
open Go.RowKit _root_.Sb

theorem regt_start {P : Program} {ops : Array Oper} {Q : Exit → Act → World → Prop} {id : Nat} {a : Act} {w : World} (hm : P.follows .mixedOrders = true)
    (h : wpAnyH P .any ops Q (fun _ => True) ops.size (Array.replicate ops.size false) a w.drew) : (Code.region id ops true).wp P Q a w :=
  wp_region_held hm h
theorem regt_call {P : Program} {md : Region.Mode} {l : List Oper} {Q : Exit → Act → World → Prop} {W : World} {fuel : Nat} {listed : Array Bool} {a : Act} (i : Nat) {o : Oper}
    (hr : Region.ready md l.toArray listed = [i]) (ho : nth l i = some o)
    (h : ∀ K : Act → World → Prop, Shut (∀ a w', True → wpAnyH P md l.toArray Q (fun _ => True) fuel (listed.setIfInBounds i true) a w' → K a w') → if Region.wanted o (yielded l.toArray a.tmps) = true then Oper.wp P o a W K Q else K (a.put o.dst undef) W) :
    wpAnyH P md l.toArray Q (fun _ => True) (fuel + 1) listed a W := by
  refine wpAnyH_all hr (by simp) fun j hj => ?_
  obtain rfl : j = i := by simpa using hj
  exact wpOp_step (nth_ops ho) fun K hK => h K fun a w' _ h' => hK a w' ⟨trivial, h'⟩
theorem regt_two {P : Program} {md : Region.Mode} {l : List Oper} {Q : Exit → Act → World → Prop} {W : World} {fuel : Nat} {listed : Array Bool} {a : Act} (i j : Nat) {o p : Oper}
    (hr : Region.ready md l.toArray listed = [i, j]) (ho : nth l i = some o) (hp : nth l j = some p)
    (h : ∀ K : Act → World → Prop, Shut (∀ a w', True → wpAnyH P md l.toArray Q (fun _ => True) fuel (listed.setIfInBounds i true) a w' → K a w') → if Region.wanted o (yielded l.toArray a.tmps) = true then Oper.wp P o a W K Q else K (a.put o.dst undef) W)
    (k : ∀ K : Act → World → Prop, Shut (∀ a w', True → wpAnyH P md l.toArray Q (fun _ => True) fuel (listed.setIfInBounds j true) a w' → K a w') → if Region.wanted p (yielded l.toArray a.tmps) = true then Oper.wp P p a W K Q else K (a.put p.dst undef) W) :
    wpAnyH P md l.toArray Q (fun _ => True) (fuel + 1) listed a W := by
  refine wpAnyH_all hr (by simp) fun x hx => ?_
  simp only [List.mem_cons, List.not_mem_nil, or_false] at hx
  rcases hx with rfl | rfl
  · exact wpOp_step (nth_ops ho) fun K hK => h K fun a w' _ h' => hK a w' ⟨trivial, h'⟩
  · exact wpOp_step (nth_ops hp) fun K hK => k K fun a w' _ h' => hK a w' ⟨trivial, h'⟩
theorem regt_take {P : Program} {md : Region.Mode} {l : List Oper} {Q : Exit → Act → World → Prop} {W : World} {fuel : Nat} {listed : Array Bool} {a : Act} (i : Nat) {oi : Oper} {v : Value} (hi : nth l i = some oi)
    (hs : Region.noSelect l.toArray = true) (hf : Region.free md l.toArray listed i = true) (hr : (Region.ready md l.toArray listed).contains i = true)
    (hQ : ∀ c a w, Q (.panic c) (a.put oi.dst v) w → Q (.panic c) a w) (hw : Region.wanted oi (yielded l.toArray a.tmps) = true) (hy : ∀ w, True → (execOp a.eval oi).run P w = .ok (.value v) w)
    (h : wpAnyH P md l.toArray Q (fun _ => True) fuel (listed.setIfInBounds i true) (a.put oi.dst v) W) : wpAnyH P md l.toArray Q (fun _ => True) (fuel + 1) listed a W :=
  wpAnyH_take (nth_ops hi) hs hf hr hQ (.inl ⟨hw, hy⟩) trivial h
theorem regt_skip {P : Program} {md : Region.Mode} {l : List Oper} {Q : Exit → Act → World → Prop} {W : World} {fuel : Nat} {listed : Array Bool} {a : Act} (i : Nat) {oi : Oper} (hi : nth l i = some oi)
    (hs : Region.noSelect l.toArray = true) (hf : Region.free md l.toArray listed i = true) (hr : (Region.ready md l.toArray listed).contains i = true)
    (hQ : ∀ c a w, Q (.panic c) (a.put oi.dst undef) w → Q (.panic c) a w) (hw : Region.wanted oi (yielded l.toArray a.tmps) = false)
    (h : wpAnyH P md l.toArray Q (fun _ => True) fuel (listed.setIfInBounds i true) (a.put oi.dst undef) W) : wpAnyH P md l.toArray Q (fun _ => True) (fuel + 1) listed a W :=
  wpAnyH_take (nth_ops hi) hs hf hr hQ (.inr ⟨hw, rfl⟩) trivial h

end Go.Proofs.Sb
