/- More words for rows of the call's own: what a growing row, a store elsewhere, leave. No conditions. -/
import Derived.Test.YtfgdohdbabhplaaArr
namespace Go.Proofs.Sb
open Go.RowKit _root_.Sb

section
variable {w w' : World} {row : Option Nat} {b o : Nat}
theorem gfroz (hg : w.grownBy w' row) (hr : some b ≠ row) (hlt : b < w.heap.size) {x : Bool} (h : w.frozen? ⟨b, o, none⟩ = x) : w'.frozen? ⟨b, o, none⟩ = x :=
  (World.frozen?_of_block (a := ⟨b, o, none⟩) (hg.block b hlt hr)).trans h
theorem kfroz {W : World} (hb : Below W.heap.size W w) (hlt : b < W.heap.size) {x : Bool} (h : W.frozen? ⟨b, o, none⟩ = x) : w.frozen? ⟨b, o, none⟩ = x := (hb.frozen (p := ⟨b, o, none⟩) hlt).trans h
theorem grow_setCell (w : World) (b i : Nat) (v : Value) : w.grownBy (w.setCell ⟨b, i, none⟩ v) (some b) :=
  have h := Below.setCell (B := b) (Below.refl b w) (p := ⟨b, i, none⟩) (Nat.le_refl _) v
  ⟨h.os, h.tape, h.output, h.size, fun k _ hr => Below.heap_setCell w ⟨b, i, none⟩ v k (fun e => hr (by rw [e]))⟩
theorem grow_of_below {row : Option Nat} (h : Below w.heap.size w w') : w.grownBy w' row := ⟨h.os, h.tape, h.output, h.size, fun k hk _ => h.block k hk⟩
/-- one step behind another: what turns is the row, or lies behind the beginning -/
theorem grow_seq {a b c : World} {row row' : Option Nat} (h : a.grownBy b row) (k : b.grownBy c row') (hr : ∀ j, row' = some j → a.heap.size ≤ j ∨ row = some j) : a.grownBy c row :=
  ⟨k.os.trans h.os, k.tape.trans h.tape, k.output.trans h.output, Nat.le_trans h.size k.size, fun i hi hrow =>
    (k.block i (Nat.lt_of_lt_of_le hi h.size) (fun e => by rcases hr i e.symm with h1 | h1; omega; exact hrow h1.symm)).trans (h.block i hi hrow)⟩
theorem below_grow {N : Nat} {a : World} (h : Below N a w) (hg : w.grownBy w' row) (hB : N ≤ w.heap.size) (hr : ∀ k, row = some k → N ≤ k) : Below N a w' := Below.grown h hg hB hr
end
section
variable {α : Type} {e : TypeId} {k : Nat} {P P' : α → List Value → Prop} {base : Nat} {w w' : World} {A : Option Addr} {n c : Nat} {l : List α}
theorem OwnA.grown {row : Option Nat} (h : OwnA e k P base w A n c l) (hg : w.grownBy w' row) (hr : ∀ b, A.map (·.block) = some b → some b ≠ row) : OwnA e k P base w' A n c l := by
  obtain ⟨vs, h0, h⟩ := h
  refine ⟨vs, h0, h.1, ?_⟩
  rcases h.2 with h2 | ⟨g, cap, cur, e, hbg, hgg, r⟩
  · exact .inl h2
  · exact .inr ⟨g, cap, cur, e, hbg, (hg.block g (Array.getElem?_eq_some_iff.1 hgg).1 (hr g (by injection e with e1; rw [e1]; rfl))).trans hgg, r⟩
end
theorem Own.grown {base : Nat} {w w' : World} {A : Option Addr} {n c : Nat} {bs : B} {row : Option Nat} (h : Own base w A n c bs) (hg : w.grownBy w' row) (hr : ∀ b, A.map (·.block) = some b → some b ≠ row) : Own base w' A n c bs := by
  refine ⟨h.1, ?_⟩
  rcases h.2 with h2 | ⟨g, cap, cur, e, hbg, hgg, r⟩
  · exact .inl h2
  · exact .inr ⟨g, cap, cur, e, hbg, (hg.block g (Array.getElem?_eq_some_iff.1 hgg).1 (hr g (by injection e with e1; rw [e1]; rfl))).trans hgg, r⟩
end Go.Proofs.Sb
