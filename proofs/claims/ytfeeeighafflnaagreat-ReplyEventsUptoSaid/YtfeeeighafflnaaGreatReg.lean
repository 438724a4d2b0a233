/- A region that draws its order, walked in the order of its text. No conditions. -/
import Derived.Test.YtfeeeighafflnaaGreatBase
set_option linter.unusedVariables false
set_option linter.unusedSimpArgs false
namespace Go.Proofs.Sb
open Go.RowKit _root_.Sb

/-! A region that draws its order, walked in the order of the text: what was there at the world W stays as it was. -/
/-- what was there in W is in w as it was -/
def Aft (W w : World) : Prop := Below W.heap.size W w
theorem Aft.refl (W : World) : Aft W W := Below.refl _ _
theorem wpAnyH_imp {P : Program} {md : Region.Mode} {ops : Array Oper} {Q : Exit → Act → World → Prop} {S S' : World → Prop} (hS : ∀ w, S' w → S w) :
    ∀ (fuel : Nat) (listed : Array Bool) (a : Act) (w : World), wpAnyH P md ops Q S' fuel listed a w → wpAnyH P md ops Q S fuel listed a w
  | 0, _, _, _, h => h
  | fuel + 1, _, _, _, h => ⟨h.1, fun i hi => wpOp_mono (fun a' w' h' => ⟨hS _ h'.1, wpAnyH_imp hS fuel _ a' w' h'.2⟩) (h.2 i hi)⟩
/-- number i of a list, laid open by reduction -/
def nth : List Oper → Nat → Option Oper
  | [], _ => none
  | o :: _, 0 => some o
  | _ :: l, n + 1 => nth l n
theorem nth_get : ∀ (l : List Oper) (i : Nat), l[i]? = nth l i
  | [], i => by simp [nth]
  | _ :: _, 0 => rfl
  | _ :: l, n + 1 => by simpa [nth] using nth_get l n
theorem nth_ops {l : List Oper} {i : Nat} {o : Oper} (h : nth l i = some o) : l.toArray[i]? = some o := by simpa [nth_get] using h
theorem reg_start {P : Program} {ops : Array Oper} {Q : Exit → Act → World → Prop} {id : Nat} {a : Act} {w : World} (hm : P.follows .mixedOrders = true)
    (h : wpAnyH P .any ops Q (Aft w.drew) ops.size (Array.replicate ops.size false) a w.drew) : (Code.region id ops true).wp P Q a w :=
  wp_region_held hm h
theorem reg_call {P : Program} {md : Region.Mode} {l : List Oper} {Q : Exit → Act → World → Prop} {W : World} {fuel : Nat} {listed : Array Bool} {a : Act} (i : Nat) {o : Oper}
    (hr : Region.ready md l.toArray listed = [i]) (ho : nth l i = some o)
    (h : ∀ K : Act → World → Prop, Shut (∀ a w', Aft W w' → wpAnyH P md l.toArray Q (Aft w') fuel (listed.setIfInBounds i true) a w' → K a w') → if Region.wanted o (yielded l.toArray a.tmps) = true then Oper.wp P o a W K Q else K (a.put o.dst undef) W) :
    wpAnyH P md l.toArray Q (Aft W) (fuel + 1) listed a W := by
  refine wpAnyH_all hr (by simp) fun j hj => ?_
  obtain rfl : j = i := by simpa using hj
  exact wpOp_step (nth_ops ho) fun K hK => h K fun a w' hw' h' => hK a w' ⟨hw', wpAnyH_imp (fun w h => seqB hw' h) _ _ _ _ h'⟩
theorem reg_two {P : Program} {md : Region.Mode} {l : List Oper} {Q : Exit → Act → World → Prop} {W : World} {fuel : Nat} {listed : Array Bool} {a : Act} (i j : Nat) {o p : Oper}
    (hr : Region.ready md l.toArray listed = [i, j]) (ho : nth l i = some o) (hp : nth l j = some p)
    (h : ∀ K : Act → World → Prop, Shut (∀ a w', Aft W w' → wpAnyH P md l.toArray Q (Aft w') fuel (listed.setIfInBounds i true) a w' → K a w') → if Region.wanted o (yielded l.toArray a.tmps) = true then Oper.wp P o a W K Q else K (a.put o.dst undef) W)
    (k : ∀ K : Act → World → Prop, Shut (∀ a w', Aft W w' → wpAnyH P md l.toArray Q (Aft w') fuel (listed.setIfInBounds j true) a w' → K a w') → if Region.wanted p (yielded l.toArray a.tmps) = true then Oper.wp P p a W K Q else K (a.put p.dst undef) W) :
    wpAnyH P md l.toArray Q (Aft W) (fuel + 1) listed a W := by
  refine wpAnyH_all hr (by simp) fun x hx => ?_
  simp only [List.mem_cons, List.not_mem_nil, or_false] at hx
  rcases hx with rfl | rfl
  · exact wpOp_step (nth_ops ho) fun K hK => h K fun a w' hw' h' => hK a w' ⟨hw', wpAnyH_imp (fun w h => seqB hw' h) _ _ _ _ h'⟩
  · exact wpOp_step (nth_ops hp) fun K hK => k K fun a w' hw' h' => hK a w' ⟨hw', wpAnyH_imp (fun w h => seqB hw' h) _ _ _ _ h'⟩
theorem reg_take {P : Program} {md : Region.Mode} {l : List Oper} {Q : Exit → Act → World → Prop} {W : World} {fuel : Nat} {listed : Array Bool} {a : Act} (i : Nat) {oi : Oper} {v : Value} (hi : nth l i = some oi)
    (hs : Region.noSelect l.toArray = true) (hf : Region.free md l.toArray listed i = true) (hr : (Region.ready md l.toArray listed).contains i = true)
    (hQ : ∀ c a w, Q (.panic c) (a.put oi.dst v) w → Q (.panic c) a w) (hw : Region.wanted oi (yielded l.toArray a.tmps) = true) (hy : ∀ w, Aft W w → (execOp a.eval oi).run P w = .ok (.value v) w)
    (h : wpAnyH P md l.toArray Q (Aft W) fuel (listed.setIfInBounds i true) (a.put oi.dst v) W) : wpAnyH P md l.toArray Q (Aft W) (fuel + 1) listed a W :=
  wpAnyH_take (nth_ops hi) hs hf hr hQ (.inl ⟨hw, hy⟩) (Aft.refl W) h
theorem reg_skip {P : Program} {md : Region.Mode} {l : List Oper} {Q : Exit → Act → World → Prop} {W : World} {fuel : Nat} {listed : Array Bool} {a : Act} (i : Nat) {oi : Oper} (hi : nth l i = some oi)
    (hs : Region.noSelect l.toArray = true) (hf : Region.free md l.toArray listed i = true) (hr : (Region.ready md l.toArray listed).contains i = true)
    (hQ : ∀ c a w, Q (.panic c) (a.put oi.dst undef) w → Q (.panic c) a w) (hw : Region.wanted oi (yielded l.toArray a.tmps) = false)
    (h : wpAnyH P md l.toArray Q (Aft W) fuel (listed.setIfInBounds i true) (a.put oi.dst undef) W) : wpAnyH P md l.toArray Q (Aft W) (fuel + 1) listed a W :=
  wpAnyH_take (nth_ops hi) hs hf hr hQ (.inr ⟨hw, rfl⟩) (Aft.refl W) h

/-! The same where one row of the call's own may grow within the region. -/
/-- what was there in W is in w as it was, but for the block row -/
def AftR (row : Option Nat) (W w : World) : Prop := W.grownBy w row
theorem AftR.refl (row : Option Nat) (W : World) : AftR row W W := World.grownBy.refl _ _
theorem AftR.of {row : Option Nat} {W w : World} (h : Below W.heap.size W w) : AftR row W w := ⟨h.os, h.tape, h.output, h.size, fun k hk _ => h.block k hk⟩
theorem AftR.seq {row : Option Nat} {a b c : World} (h : AftR row a b) (k : AftR row b c) : AftR row a c :=
  ⟨k.os.trans h.os, k.tape.trans h.tape, k.output.trans h.output, Nat.le_trans h.size k.size, fun i hi hr => (k.block i (Nat.lt_of_lt_of_le hi h.size) hr).trans (h.block i hi hr)⟩
theorem regr_start {P : Program} {ops : Array Oper} {Q : Exit → Act → World → Prop} {id : Nat} {a : Act} {w : World} (row : Option Nat) (hm : P.follows .mixedOrders = true)
    (h : wpAnyH P .any ops Q (AftR row w.drew) ops.size (Array.replicate ops.size false) a w.drew) : (Code.region id ops true).wp P Q a w :=
  wp_region_held hm h
theorem regr_call {P : Program} {md : Region.Mode} {l : List Oper} {Q : Exit → Act → World → Prop} {row : Option Nat} {W : World} {fuel : Nat} {listed : Array Bool} {a : Act} (i : Nat) {o : Oper}
    (hr : Region.ready md l.toArray listed = [i]) (ho : nth l i = some o)
    (h : ∀ K : Act → World → Prop, Shut (∀ a w', AftR row W w' → wpAnyH P md l.toArray Q (AftR row w') fuel (listed.setIfInBounds i true) a w' → K a w') → if Region.wanted o (yielded l.toArray a.tmps) = true then Oper.wp P o a W K Q else K (a.put o.dst undef) W) :
    wpAnyH P md l.toArray Q (AftR row W) (fuel + 1) listed a W := by
  refine wpAnyH_all hr (by simp) fun j hj => ?_
  obtain rfl : j = i := by simpa using hj
  exact wpOp_step (nth_ops ho) fun K hK => h K fun a w' hw' h' => hK a w' ⟨hw', wpAnyH_imp (fun w h => hw'.seq h) _ _ _ _ h'⟩
theorem regr_two {P : Program} {md : Region.Mode} {l : List Oper} {Q : Exit → Act → World → Prop} {row : Option Nat} {W : World} {fuel : Nat} {listed : Array Bool} {a : Act} (i j : Nat) {o p : Oper}
    (hr : Region.ready md l.toArray listed = [i, j]) (ho : nth l i = some o) (hp : nth l j = some p)
    (h : ∀ K : Act → World → Prop, Shut (∀ a w', AftR row W w' → wpAnyH P md l.toArray Q (AftR row w') fuel (listed.setIfInBounds i true) a w' → K a w') → if Region.wanted o (yielded l.toArray a.tmps) = true then Oper.wp P o a W K Q else K (a.put o.dst undef) W)
    (k : ∀ K : Act → World → Prop, Shut (∀ a w', AftR row W w' → wpAnyH P md l.toArray Q (AftR row w') fuel (listed.setIfInBounds j true) a w' → K a w') → if Region.wanted p (yielded l.toArray a.tmps) = true then Oper.wp P p a W K Q else K (a.put p.dst undef) W) :
    wpAnyH P md l.toArray Q (AftR row W) (fuel + 1) listed a W := by
  refine wpAnyH_all hr (by simp) fun x hx => ?_
  simp only [List.mem_cons, List.not_mem_nil, or_false] at hx
  rcases hx with rfl | rfl
  · exact wpOp_step (nth_ops ho) fun K hK => h K fun a w' hw' h' => hK a w' ⟨hw', wpAnyH_imp (fun w h => hw'.seq h) _ _ _ _ h'⟩
  · exact wpOp_step (nth_ops hp) fun K hK => k K fun a w' hw' h' => hK a w' ⟨hw', wpAnyH_imp (fun w h => hw'.seq h) _ _ _ _ h'⟩
theorem regr_take {P : Program} {md : Region.Mode} {l : List Oper} {Q : Exit → Act → World → Prop} {row : Option Nat} {W : World} {fuel : Nat} {listed : Array Bool} {a : Act} (i : Nat) {oi : Oper} {v : Value} (hi : nth l i = some oi)
    (hs : Region.noSelect l.toArray = true) (hf : Region.free md l.toArray listed i = true) (hr : (Region.ready md l.toArray listed).contains i = true)
    (hQ : ∀ c a w, Q (.panic c) (a.put oi.dst v) w → Q (.panic c) a w) (hw : Region.wanted oi (yielded l.toArray a.tmps) = true) (hy : ∀ w, AftR row W w → (execOp a.eval oi).run P w = .ok (.value v) w)
    (h : wpAnyH P md l.toArray Q (AftR row W) fuel (listed.setIfInBounds i true) (a.put oi.dst v) W) : wpAnyH P md l.toArray Q (AftR row W) (fuel + 1) listed a W :=
  wpAnyH_take (nth_ops hi) hs hf hr hQ (.inl ⟨hw, hy⟩) (AftR.refl row W) h
theorem regr_skip {P : Program} {md : Region.Mode} {l : List Oper} {Q : Exit → Act → World → Prop} {row : Option Nat} {W : World} {fuel : Nat} {listed : Array Bool} {a : Act} (i : Nat) {oi : Oper} (hi : nth l i = some oi)
    (hs : Region.noSelect l.toArray = true) (hf : Region.free md l.toArray listed i = true) (hr : (Region.ready md l.toArray listed).contains i = true)
    (hQ : ∀ c a w, Q (.panic c) (a.put oi.dst undef) w → Q (.panic c) a w) (hw : Region.wanted oi (yielded l.toArray a.tmps) = false)
    (h : wpAnyH P md l.toArray Q (AftR row W) fuel (listed.setIfInBounds i true) (a.put oi.dst undef) W) : wpAnyH P md l.toArray Q (AftR row W) (fuel + 1) listed a W :=
  wpAnyH_take (nth_ops hi) hs hf hr hQ (.inr ⟨hw, rfl⟩) (AftR.refl row W) h
theorem below_undrew {N : Nat} {a w : World} (h : Below N a w) : Below N a.drew w := ⟨h.os, h.tape, h.output, h.size, h.block⟩
/-- a cell below, in a world behind -/
theorem AftR.cell {row : Option Nat} {W w : World} (h : AftR row W w) {b o : Nat} (hb : b < W.heap.size) (hr : some b ≠ row) : w.cell? ⟨b, o, none⟩ = W.cell? ⟨b, o, none⟩ := World.cell?_of_block (h.block b hb hr)
/-- what a cell holds, at each world behind -/
theorem AftR.each {row : Option Nat} {W : World} {b o : Nat} {v : Value} (hr : some b ≠ row) (h : W.cell? ⟨b, o, none⟩ = some v) : ∀ w, AftR row W w → w.cell? ⟨b, o, none⟩ = some v :=
  fun w hw => (hw.cell (World.block_lt_of_cell? W ⟨b, o, none⟩ h) hr).trans h
theorem Aft.each {W : World} {b o : Nat} {v : Value} (h : W.cell? ⟨b, o, none⟩ = some v) : ∀ w, Aft W w → w.cell? ⟨b, o, none⟩ = some v :=
  fun w hw => (Below.cell hw (p := ⟨b, o, none⟩) (World.block_lt_of_cell? W ⟨b, o, none⟩ h)).trans h
end Go.Proofs.Sb

/- A region that draws its order, walked where its loads and its changes stand in either order. No conditions. -/
namespace Go.Proofs.Sb
open Go.RowKit _root_.Sb

theorem regt_start {P : Program} {ops : Array Oper} {Q : Exit → Act → World → Prop} {id : Nat} {a : Act} {w : World} (hm : P.follows .mixedOrders = true)
    (h : wpAnyH P .any ops Q (fun _ => True) ops.size (Array.replicate ops.size false) a w.drew) : (Code.region id ops true).wp P Q a w :=
  wp_region_held hm h
theorem regt_call {P : Program} {md : Region.Mode} {l : List Oper} {Q : Exit → Act → World → Prop} {W : World} {fuel : Nat} {listed : Array Bool} {a : Act} (i : Nat) {o : Oper}
    (hr : Region.ready md l.toArray listed = [i]) (ho : nth l i = some o)
    (h : ∀ K : Act → World → Prop, Shut (∀ a w', True → wpAnyH P md l.toArray Q (fun _ => True) fuel (listed.setIfInBounds i true) a w' → K a w') → if Region.wanted o (yielded l.toArray a.tmps) = true then Oper.wp P o a W K Q else K (a.put o.dst undef) W) :
    wpAnyH P md l.toArray Q (fun _ => True) (fuel + 1) listed a W := by
  refine wpAnyH_all hr (by simp) fun j hj => ?_
  obtain rfl : j = i := by simpa using hj
  exact wpOp_step (nth_ops ho) fun K hK => h K fun a w' _ h' => hK a w' ⟨trivial, h'⟩
theorem regt_two {P : Program} {md : Region.Mode} {l : List Oper} {Q : Exit → Act → World → Prop} {W : World} {fuel : Nat} {listed : Array Bool} {a : Act} (i j : Nat) {o p : Oper}
    (hr : Region.ready md l.toArray listed = [i, j]) (ho : nth l i = some o) (hp : nth l j = some p)
    (h : ∀ K : Act → World → Prop, Shut (∀ a w', True → wpAnyH P md l.toArray Q (fun _ => True) fuel (listed.setIfInBounds i true) a w' → K a w') → if Region.wanted o (yielded l.toArray a.tmps) = true then Oper.wp P o a W K Q else K (a.put o.dst undef) W)
    (k : ∀ K : Act → World → Prop, Shut (∀ a w', True → wpAnyH P md l.toArray Q (fun _ => True) fuel (listed.setIfInBounds j true) a w' → K a w') → if Region.wanted p (yielded l.toArray a.tmps) = true then Oper.wp P p a W K Q else K (a.put p.dst undef) W) :
    wpAnyH P md l.toArray Q (fun _ => True) (fuel + 1) listed a W := by
  refine wpAnyH_all hr (by simp) fun x hx => ?_
  simp only [List.mem_cons, List.not_mem_nil, or_false] at hx
  rcases hx with rfl | rfl
  · exact wpOp_step (nth_ops ho) fun K hK => h K fun a w' _ h' => hK a w' ⟨trivial, h'⟩
  · exact wpOp_step (nth_ops hp) fun K hK => k K fun a w' _ h' => hK a w' ⟨trivial, h'⟩
theorem regt_take {P : Program} {md : Region.Mode} {l : List Oper} {Q : Exit → Act → World → Prop} {W : World} {fuel : Nat} {listed : Array Bool} {a : Act} (i : Nat) {oi : Oper} {v : Value} (hi : nth l i = some oi)
    (hs : Region.noSelect l.toArray = true) (hf : Region.free md l.toArray listed i = true) (hr : (Region.ready md l.toArray listed).contains i = true)
    (hQ : ∀ c a w, Q (.panic c) (a.put oi.dst v) w → Q (.panic c) a w) (hw : Region.wanted oi (yielded l.toArray a.tmps) = true) (hy : ∀ w, True → (execOp a.eval oi).run P w = .ok (.value v) w)
    (h : wpAnyH P md l.toArray Q (fun _ => True) fuel (listed.setIfInBounds i true) (a.put oi.dst v) W) : wpAnyH P md l.toArray Q (fun _ => True) (fuel + 1) listed a W :=
  wpAnyH_take (nth_ops hi) hs hf hr hQ (.inl ⟨hw, hy⟩) trivial h
theorem regt_skip {P : Program} {md : Region.Mode} {l : List Oper} {Q : Exit → Act → World → Prop} {W : World} {fuel : Nat} {listed : Array Bool} {a : Act} (i : Nat) {oi : Oper} (hi : nth l i = some oi)
    (hs : Region.noSelect l.toArray = true) (hf : Region.free md l.toArray listed i = true) (hr : (Region.ready md l.toArray listed).contains i = true)
    (hQ : ∀ c a w, Q (.panic c) (a.put oi.dst undef) w → Q (.panic c) a w) (hw : Region.wanted oi (yielded l.toArray a.tmps) = false)
    (h : wpAnyH P md l.toArray Q (fun _ => True) fuel (listed.setIfInBounds i true) (a.put oi.dst undef) W) : wpAnyH P md l.toArray Q (fun _ => True) (fuel + 1) listed a W :=
  wpAnyH_take (nth_ops hi) hs hf hr hQ (.inr ⟨hw, rfl⟩) trivial h

end Go.Proofs.Sb
