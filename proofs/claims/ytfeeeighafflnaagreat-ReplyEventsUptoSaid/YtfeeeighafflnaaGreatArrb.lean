/- More words for rows of the call's own: what a growing row, a store elsewhere, leave. No conditions. -/
import Derived.Test.YtfeeeighafflnaaGreatArr
set_option linter.unusedVariables false
set_option linter.unusedSimpArgs false
namespace Go.Proofs.Sb
open Go.RowKit _root_.Sb

section
variable {w w' : World} {row : Option Nat} {b o : Nat}
theorem gfroz (hg : w.grownBy w' row) (hr : some b ≠ row) (hlt : b < w.heap.size) {x : Bool} (h : w.frozen? ⟨b, o, none⟩ = x) : w'.frozen? ⟨b, o, none⟩ = x :=
  (World.frozen?_of_block (a := ⟨b, o, none⟩) (hg.block b hlt hr)).trans h
theorem kfroz {W : World} (hb : Below W.heap.size W w) (hlt : b < W.heap.size) {x : Bool} (h : W.frozen? ⟨b, o, none⟩ = x) : w.frozen? ⟨b, o, none⟩ = x := (hb.frozen (p := ⟨b, o, none⟩) hlt).trans h
theorem grow_setCell (w : World) (b i : Nat) (v : Value) : w.grownBy (w.setCell ⟨b, i, none⟩ v) (some b) :=
  have h := Below.setCell (B := b) (Below.refl b w) (p := ⟨b, i, none⟩) (Nat.le_refl _) v
  ⟨h.os, h.tape, h.output, h.size, fun k _ hr => Below.heap_setCell w ⟨b, i, none⟩ v k (fun e => hr (by rw [e]))⟩
theorem grow_of_below {row : Option Nat} (h : Below w.heap.size w w') : w.grownBy w' row := ⟨h.os, h.tape, h.output, h.size, fun k hk _ => h.block k hk⟩
/-- one step behind another: what turns is the row, or lies behind the beginning -/
theorem grow_seq {a b c : World} {row row' : Option Nat} (h : a.grownBy b row) (k : b.grownBy c row') (hr : ∀ j, row' = some j → a.heap.size ≤ j ∨ row = some j) : a.grownBy c row :=
  ⟨k.os.trans h.os, k.tape.trans h.tape, k.output.trans h.output, Nat.le_trans h.size k.size, fun i hi hrow =>
    (k.block i (Nat.lt_of_lt_of_le hi h.size) (fun e => by rcases hr i e.symm with h1 | h1; omega; exact hrow h1.symm)).trans (h.block i hi hrow)⟩
theorem below_grow {N : Nat} {a : World} (h : Below N a w) (hg : w.grownBy w' row) (hB : N ≤ w.heap.size) (hr : ∀ k, row = some k → N ≤ k) : Below N a w' := Below.grown h hg hB hr
end
section
variable {α : Type} {e : TypeId} {k : Nat} {P P' : α → List Value → Prop} {base : Nat} {w w' : World} {A : Option Addr} {n c : Nat} {l : List α}
theorem OwnA.grown {row : Option Nat} (h : OwnA e k P base w A n c l) (hg : w.grownBy w' row) (hr : ∀ b, A.map (·.block) = some b → some b ≠ row) : OwnA e k P base w' A n c l := by
  obtain ⟨vs, h0, h⟩ := h
  refine ⟨vs, h0, h.1, ?_⟩
  rcases h.2 with h2 | ⟨g, cap, cur, e, hbg, hgg, r⟩
  · exact .inl h2
  · exact .inr ⟨g, cap, cur, e, hbg, (hg.block g (Array.getElem?_eq_some_iff.1 hgg).1 (hr g (by injection e with e1; rw [e1]; rfl))).trans hgg, r⟩
end
theorem Own.grown {base : Nat} {w w' : World} {A : Option Addr} {n c : Nat} {bs : B} {row : Option Nat} (h : Own base w A n c bs) (hg : w.grownBy w' row) (hr : ∀ b, A.map (·.block) = some b → some b ≠ row) : Own base w' A n c bs := by
  refine ⟨h.1, ?_⟩
  rcases h.2 with h2 | ⟨g, cap, cur, e, hbg, hgg, r⟩
  · exact .inl h2
  · exact .inr ⟨g, cap, cur, e, hbg, (hg.block g (Array.getElem?_eq_some_iff.1 hgg).1 (hr g (by injection e with e1; rw [e1]; rfl))).trans hgg, r⟩

/-! append of bytes, with the place where its row lies. -/
def byteP (b : UInt8) (v : List Value) : Prop := v = [.int .u8 (b.toNat : Int)]
theorem els_bv : ∀ bs : B, Els 1 byteP bs (bv bs)
  | [] => rfl
  | b :: bs => ⟨[_], bv bs, rfl, rfl, rfl, els_bv bs⟩
theorem bv_els : ∀ {bs : B} {vs : List Value}, Els 1 byteP bs vs → vs = bv bs
  | [], _, h => h
  | b :: bs, _, ⟨v, r, e, _, hp, h⟩ => by rw [e, hp, bv_els h]; rfl
theorem tyU8 : Ty 25 5 1 1 (.int .u8 0) := ⟨Tryz.underlying25, by kernel_rfl, rfl, by decide⟩
section
variable {base : Nat} {w : World} {A : Option Addr} {n c : Nat} {bs : B}
theorem Own.toA (h : Own base w A n c bs) : OwnA 5 1 byteP base w A n c bs := ⟨bv bs, els_bv bs, h⟩
theorem Own.ofA (h : OwnA 5 1 byteP base w A n c bs) : Own base w A n c bs := by
  obtain ⟨vs, h1, h2⟩ := h
  rw [bv_els h1] at h2
  exact h2
/-- a row of the call's own reads as its bytes, in its one block -/
theorem Own.slb (h : Own base w A n c bs) : Sl (fun b => base ≤ b ∧ A.map (·.block) = some b) w A n c bs := by
  obtain ⟨h1, h2, h3, vs, h4, h5⟩ := h.toA.arr (by decide)
  rw [bv_els h4] at h5
  exact ⟨h1, h2, h3, h5⟩
end
theorem byteP_one (b : UInt8) (v : List Value) (h : byteP b v) : ∀ u ∈ v, u.oneCell' = true := by
  rw [h]
  intro u hu
  simp at hu
  rw [hu]
  rfl
theorem Sl.arr {S : Nat → Prop} {w : World} {A : Option Addr} {n c : Nat} {bs : B} (h : Sl S w A n c bs) : Arr 1 byteP S w A n c bs := ⟨h.1, h.2.1, h.2.2.1, bv bs, els_bv bs, h.2.2.2⟩
theorem wpList_appw {w : World} {ops : Array Oper} {rest : List Oper} {o : Oper} {a : Act} {Q : Exit → Act → World → Prop} (hgd : o.guard = none) (s x : Operand)
    (ho : o.op = .call { callee := .builtin .append, args := #[s, x], argTypes := #[25, 25] })
    (base : Nat) (A : Option Addr) (n c : Nat) (bs : B) (hs : a.eval s = .slice A n c) (hown : Own base w A n c bs)
    (S : Nat → Prop) (A2 : Option Addr) (m c2 : Nat) (cs : B) (hx : a.eval x = .slice A2 m c2) (hr : Sl S w A2 m c2 cs)
    (hbytes : bs.length + cs.length ≤ 140737488355328) (hbase : base ≤ w.heap.size)
    (h : ∀ A' n' c' w', Own base w' A' n' c' (bs ++ cs) → w.grownBy w' (A.map (·.block)) → (∀ b, A'.map (·.block) = some b → A.map (·.block) = some b ∨ w.heap.size ≤ b) → wpList Tryz.prog ops Q rest (a.put o.dst (.slice A' n' c')) w') : wpList Tryz.prog ops Q (o :: rest) a w := by
  have h1 := hown.len
  have h2 := hr.len
  exact wpList_appA hgd tyU8 s x ho base A n c bs hs hown.toA S A2 m c2 cs hx hr.arr byteP_one (fun _ _ _ h => h) (by omega) (by unfold maxLen; omega) hbase fun A' n' c' w' g1 g2 g3 => h A' n' c' w' (Own.ofA g1) g2 g3
theorem step_appw {w : World} {ops : Array Oper} {o : Oper} {a : Act} {K : Act → World → Prop} {Q : Exit → Act → World → Prop} {E : Prop} (hgd : o.guard = none) (s x : Operand)
    (ho : o.op = .call { callee := .builtin .append, args := #[s, x], argTypes := #[25, 25] })
    (base : Nat) (A : Option Addr) (n c : Nat) (bs : B) (hs : a.eval s = .slice A n c) (hown : Own base w A n c bs)
    (S : Nat → Prop) (A2 : Option Addr) (m c2 : Nat) (cs : B) (hx : a.eval x = .slice A2 m c2) (hr : Sl S w A2 m c2 cs)
    (hbytes : bs.length + cs.length ≤ 140737488355328) (hbase : base ≤ w.heap.size)
    (h : ∀ A' n' c' w', Own base w' A' n' c' (bs ++ cs) → w.grownBy w' (A.map (·.block)) → (∀ b, A'.map (·.block) = some b → A.map (·.block) = some b ∨ w.heap.size ≤ b) → K (a.put o.dst (.slice A' n' c')) w') :
    if Region.wanted o (yielded ops a.tmps) = true then Oper.wp Tryz.prog o a w K Q else E := by
  have h1 := hown.len
  have h2 := hr.len
  exact step_appA hgd tyU8 s x ho base A n c bs hs hown.toA S A2 m c2 cs hx hr.arr byteP_one (fun _ _ _ h => h) (by omega) (by unfold maxLen; omega) hbase fun A' n' c' w' g1 g2 g3 => h A' n' c' w' (Own.ofA g1) g2 g3
/-- the cells of elements in a new block -/
theorem arr_new {α : Type} {k : Nat} {P : α → List Value → Prop} {e : TypeId} (w : World) (vs : Array Value) (l : List α) (n : Nat) (hl : Els k P l vs.toList) (hn : n = l.length) (hm : n ≤ maxLen) {g : Nat} (hg : g = w.heap.size) : Arr k P (fun b => b = w.heap.size) (w.alloc (.cells vs e)) (some ⟨g, 0, none⟩) n n l := by
  subst hg
  refine ⟨hn, Nat.le_refl _, hm, vs.toList, hl, fun _ => ⟨w.heap.size, 0, rfl, rfl, by simp, fun j u hu => ?_⟩⟩
  rw [Nat.zero_add]
  have e1 : (w.alloc (.cells vs e)).heap[w.heap.size]? = some (.cells vs e) := heap_alloc_new w _
  unfold World.cell?
  rw [e1]
  simpa using hu

end Go.Proofs.Sb
