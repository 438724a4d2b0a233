/- Walks over option.reader's short, text. Conditions: lengths up to 2^47. -/
import Derived.Test.YtdgmkmadlnmhbaaOpts
import Derived.Test.YtdgmkmadlnmhbaaReg
import Derived.Test.YtdgmkmadlnmhbaaPrims
set_option linter.unusedVariables false
set_option linter.unusedSimpArgs false
namespace Sb
def shortV : Wr → Nat | .ok cur => rval 0 (getN 2 cur) | .error _ => 0
def shortR : Wr → Wr | .ok cur => (match getN 2 cur with | .ok x => .ok x.2 | .error e => .error e) | .error e => .error e
def textV : Wr → B | .ok cur => rval [] (getText cur) | .error _ => []
def textR : Wr → Wr | .ok cur => (match getText cur with | .ok x => .ok x.2 | .error e => .error e) | .error e => .error e
theorem shortV_ok {cur : B} {r : Res Nat} (h : getN 2 cur = r) : shortV (.ok cur) = rval 0 r := by subst h; rfl
theorem shortR_ok {cur : B} {x : Nat × B} (h : getN 2 cur = .ok x) : shortR (.ok cur) = .ok x.2 := by simp only [shortR, h]
theorem shortR_err {cur : B} {e : Int} (h : getN 2 cur = .error e) : shortR (.ok cur) = .error e := by simp only [shortR, h]
theorem textV_ok {cur : B} {r : Res B} (h : getText cur = r) : textV (.ok cur) = rval [] r := by subst h; rfl
theorem textR_ok {cur : B} {x : B × B} (h : getText cur = .ok x) : textR (.ok cur) = .ok x.2 := by simp only [textR, h]
theorem textR_err {cur : B} {e : Int} (h : getText cur = .error e) : textR (.ok cur) = .error e := by simp only [textR, h]
end Sb
namespace Go.Proofs.Sb
open Go.RowKit _root_.Sb

/-- the reader at block X: what is left, or its error -/
def RdAt (S : Nat → Prop) (w : World) (X : Nat) (s : Wr) : Prop := ∃ A n c, w.cell? ⟨X, 0, none⟩ = some (.slice A n c) ∧ w.cell? ⟨X, 1, none⟩ = some (.int .i64 (werr s)) ∧ (∀ o, w.frozen? ⟨X, o, none⟩ = false) ∧ (∀ cur, s = .ok cur → Sl S w A n c cur ∧ n ≤ 140737488355328) ∧ (∀ e, s = .error e → e ≠ 0)
section
variable {S : Nat → Prop} {w w' : World} {X : Nat} {s : Wr}
theorem RdAt.lt (h : RdAt S w X s) : X < w.heap.size := by
  obtain ⟨A, n, c, h0, _⟩ := h
  exact World.block_lt_of_cell? w ⟨X, 0, none⟩ h0
theorem RdAt.after (h : RdAt S w X s) (hb : Below w.heap.size w w') : RdAt S w' X s := by
  have hlt := h.lt
  obtain ⟨A, n, c, h0, h1, h2, h3, h4⟩ := h
  exact ⟨A, n, c, kcell hb h0, kcell hb h1, fun o => kfroz hb hlt (h2 o), fun cur e => ⟨(h3 cur e).1.after hb, (h3 cur e).2⟩, h4⟩
theorem RdAt.grown {row : Option Nat} (h : RdAt S w X s) (hg : w.grownBy w' row) (hr : row ≠ some X) (hS : ∀ b, S b → row ≠ some b) : RdAt S w' X s := by
  have hlt := h.lt
  obtain ⟨A, n, c, h0, h1, h2, h3, h4⟩ := h
  have gc : ∀ {o v}, w.cell? ⟨X, o, none⟩ = some v → w'.cell? ⟨X, o, none⟩ = some v := fun h => (World.cell?_of_block (hg.block X hlt fun e => hr e.symm)).trans h
  exact ⟨A, n, c, gc h0, gc h1, fun o => gfroz hg (fun e => hr e.symm) hlt (h2 o), fun cur e => ⟨(h3 cur e).1.grown hg (fun b hb e => hS b hb e.symm), (h3 cur e).2⟩, h4⟩
end
theorem set2 {u0 u1 : Value} (S : Nat → Prop) (w : World) (X : Nat) (A : Option Addr) (n c : Nat) (e : Int) (s : Wr) (he : werr s = e) (h0 : w.cell? ⟨X, 0, none⟩ = some u0) (h1 : w.cell? ⟨X, 1, none⟩ = some u1) (hf : ∀ o, w.frozen? ⟨X, o, none⟩ = false) (hS : ∀ b, S b → b ≠ X)
    (hc : ∀ cur, s = .ok cur → Sl S w A n c cur ∧ n ≤ 140737488355328) (hn : ∀ e, s = .error e → e ≠ 0) : RdAt S ((w.setCell ⟨X, 0, none⟩ (.slice A n c)).setCell ⟨X, 1, none⟩ (.int .i64 e)) X s := by
  subst he
  exact ⟨A, n, c, by go_simp, by go_simp, fun o => by simp [hf], fun cur e => ⟨((hc cur e).1.setCell (fun b h => hS b h) _).setCell (fun b h => hS b h) _, (hc cur e).2⟩, hn⟩
theorem grow_set2 {w w1 : World} {X : Nat} {row : Option Nat} (hb : Below w.heap.size w w1) (u v : Value) : w.grownBy ((w1.setCell ⟨X, 0, none⟩ u).setCell ⟨X, 1, none⟩ v) (some X) :=
  grow_seq (grow_seq (grow_of_below (row := some X) hb) (grow_setCell _ X 0 u) fun j e => .inr e) (grow_setCell _ X 1 v) fun j e => .inr e
end Go.Proofs.Sb
