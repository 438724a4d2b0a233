/- Words for reply.stream: its box, in a state, reading or writing. No conditions. (written by gen_st.py) -/
import Derived.Test.YtfeeeighafflnaaGreatSta
import Derived.Test.YtfeeeighafflnaaGreatRole
import Derived.Test.YtfeeeighafflnaaGreatPrimsb
import Derived.Test.YtfeeeighafflnaaGreatPrimsc
import Derived.Test.YtfeeeighafflnaaGreatMapsd
set_option linter.unusedVariables false
set_option linter.unusedSimpArgs false
namespace Sb
/-- all that is left -/
def allR (b : B) : Res B := .ok (b, [])
theorem Lc.len {α : Type} {g : B → Res α} (G : Lc g) {b r : B} {x : α} (h : g b = .ok (x, r)) : r.length ≤ b.length := by
  obtain ⟨y, rfl, _⟩ := G b x r h
  rw [List.length_append]; omega
theorem gR_rerr {α : Type} {g : B → Res α} {cur : B} {r : Res α} (h : g cur = r) : werr (gR g (.ok cur)) = rerr r := by
  subst h
  simp only [gR]
  cases g cur <;> rfl
end Sb
namespace Go.Proofs.Sb
open Go.RowKit _root_.Sb
theorem set_same {α : Type} {l : List α} {i : Nat} {x : α} (h : l[i]? = some x) : l.set i x = l := by
  obtain ⟨hi, rfl⟩ := List.getElem?_eq_some_iff.1 h
  exact List.set_getElem_self hi
theorem bx_same1 {S : Nat → Prop} {w : World} {P i : Nat} {vs : List Value} {u : Value} (h : Bx S w P vs) (h0 : vs[i]? = some u) : Bx S w P (vs.set i u) := by rw [set_same h0]; exact h
theorem bx_same2 {S : Nat → Prop} {w : World} {P i : Nat} {vs : List Value} {u v : Value} (h : Bx S w P vs) (h0 : vs[i]? = some u) (h1 : vs[i + 1]? = some v) : Bx S w P ((vs.set i u).set (i + 1) v) := by rw [set_same h0, set_same h1]; exact h
theorem vs_lt {l : List Value} {i : Nat} {x : Value} (h : l[i]? = some x) : i < l.length := (List.getElem?_eq_some_iff.1 h).1
/-- the stream's box X, reading, in state s; what it reads lies in blocks of S -/
def StR (S : Nat → Prop) (w : World) (X : Nat) (s : Wr) : Prop :=
  ∃ A n c, Bx (fun b => b = X) w X [.bool false, .slice A n c, .int .i64 (werr s)] ∧ (∀ cur, s = .ok cur → Sl S w A n c cur ∧ n ≤ 140737488355328) ∧ (∀ e, s = .error e → e ≠ 0)
theorem StR.keep {S : Nat → Prop} {w w' : World} {X : Nat} {s : Wr} (h : StR S w X s) (hz : w.heap.size ≤ w'.heap.size) (hk : ∀ b, S b ∨ b = X → b < w.heap.size → w'.heap[b]? = w.heap[b]?) : StR S w' X s := by
  obtain ⟨A, n, c, h1, h2, h3⟩ := h
  exact ⟨A, n, c, goesBx.keep h1 hz (fun b hb hl => hk b (.inr hb) hl), fun cur e => ⟨goesSl.keep (h2 cur e).1 hz (fun b hb hl => hk b (.inl hb) hl), (h2 cur e).2⟩, h3⟩
theorem StR.after {S : Nat → Prop} {w w' : World} {X : Nat} {s : Wr} (h : StR S w X s) (hb : Below w.heap.size w w') : StR S w' X s := h.keep hb.size fun b _ hl => hb.block b hl
theorem StR.fr {S T : Nat → Prop} {w w' : World} {X : Nat} {s : Wr} (h : StR S w X s) (hf : Fr T w w') (hX : ¬ T X) (hS : ∀ b, S b → ¬ T b) : StR S w' X s := h.keep hf.size fun b hb hl => hf.block b hl (by rcases hb with hb | rfl; exact hS b hb; exact hX)
theorem StR.lt {S : Nat → Prop} {w : World} {X : Nat} {s : Wr} (h : StR S w X s) : X < w.heap.size := by obtain ⟨A, n, c, h1, _⟩ := h; exact h1.lt
theorem StR.place {S : Nat → Prop} {w : World} {X P i : Nat} {s : Wr} (h : StR S w X s) (hPX : P ≠ X) (hSP : ∀ b, S b → b ≠ P) (v : Value) : StR S (w.setCell ⟨P, i, none⟩ v) X s :=
  h.fr (T := fun b => b = P) (Fr.set (S := fun b => b = P) w (X := P) rfl v) (fun e => hPX e.symm) hSP
/-- behind a reading -/
theorem StR.next {α : Type} {g : B → Res α} {S : Nat → Prop} {w : World} {X : Nat} {A : Option Addr} {n c : Nat} {u v : Value} {cur : B} {r : Res α} (hB : Bx (fun b => b = X) w X [.bool false, u, v]) (hr : g cur = r) (hs : Sl S w A n c (rrest r)) (hS : ∀ b, S b → b ≠ X)
    (hl : ∀ x r', r = .ok (x, r') → r'.length ≤ 140737488355328) (hn : ∀ e, r = .error e → e ≠ 0) : StR S ((w.setCell ⟨X, 1, none⟩ (.slice A n c)).setCell ⟨X, 2, none⟩ (.int .i64 (rerr r))) X (gR g (.ok cur)) := by
  refine ⟨A, n, c, ?_, fun cu e => ?_, fun e he => ?_⟩
  · rw [gR_rerr hr]
    exact (hB.put 1 (.slice A n c) (by show 1 < 3; decide)).put 2 (.int .i64 (rerr r)) (by show 2 < 3; decide)
  · cases r with
    | error e1 => rw [gR_err hr] at e; cases e
    | ok x =>
      rw [gR_ok hr] at e
      injection e with e
      subst e
      have hs' := (hs.setCell (p := ⟨X, 1, none⟩) hS (.slice A n c)).setCell (p := ⟨X, 2, none⟩) hS (.int .i64 (rerr (.ok x : Res α)))
      exact ⟨hs', by have := hs.len; have := hl x.1 x.2 rfl; simp only [rrest_ok] at *; omega⟩
  · cases r with
    | error e1 => rw [gR_err hr] at he; injection he with he; subst he; exact hn _ rfl
    | ok x => rw [gR_ok hr] at he; cases he
theorem frTwo {w w1 : World} {X : Nat} (hb : Below w.heap.size w w1) (u v : Value) {P : Nat} : Fr (fun b => b = X ∨ b = P) w ((w1.setCell ⟨X, 1, none⟩ u).setCell ⟨X, 2, none⟩ v) :=
  ((Fr.of_below hb).trans (Fr.set (S := fun b => b = X ∨ b = P) w1 (X := X) (.inl rfl) u)).trans (Fr.set (S := fun b => b = X ∨ b = P) _ (X := X) (.inl rfl) v)
/-- the stream's box X, writing, and its row, in blocks of T, in state s -/
structure StW (T : Nat → Prop) (w : World) (X : Nat) (s : Wr) : Prop where
  mem : T X
  lt : ∀ b, T b → b < w.heap.size
  ex : ∃ A n c bs, OwnB T w A n c bs ∧ Bx T w X [.bool true, .slice A n c, .int .i64 (werr s)] ∧ (∀ b, A.map (·.block) = some b → b ≠ X) ∧ (∀ b, s = .ok b → bs = b) ∧ (∀ e, s = .error e → e ≠ 0)
/-- how far a walk has come from the world W on, where the stream owned T: it owns T' now -/
structure SW (W : World) (T : Nat → Prop) (w : World) (X : Nat) (s : Wr) (T' : Nat → Prop) : Prop where
  at' : StW T' w X s
  fr : Fr T W w
  own : ∀ b, T' b → T b ∨ W.heap.size ≤ b
section
variable {W w w' : World} {T T' T2 : Nat → Prop} {X : Nat} {s s' : Wr}
theorem StW.after (h : StW T w X s) (hb : Below w.heap.size w w') : StW T w' X s := by
  obtain ⟨A, n, c, bs, h1, h2, h3, h4, h5⟩ := h.ex
  exact ⟨h.mem, fun b hb2 => Nat.lt_of_lt_of_le (h.lt b hb2) hb.size, A, n, c, bs, h1.after hb, h2.after hb, h3, h4, h5⟩
theorem StW.keep (h : StW T w X s) (hz : w.heap.size ≤ w'.heap.size) (hk : ∀ b, T b → b < w.heap.size → w'.heap[b]? = w.heap[b]?) : StW T w' X s := by
  obtain ⟨A, n, c, bs, h1, h2, h3, h4, h5⟩ := h.ex
  exact ⟨h.mem, fun b hb2 => Nat.lt_of_lt_of_le (h.lt b hb2) hz, A, n, c, bs, goesOwnB.keep h1 hz hk, goesBx.keep h2 hz hk, h3, h4, h5⟩
theorem SW.refl (h : StW T w X s) : SW w T w X s T := ⟨h, .refl _ _, fun b h => .inl h⟩
theorem SW.trans (h : SW W T w X s T') (k : SW w T' w' X s' T2) : SW W T w' X s' T2 :=
  ⟨k.at', h.fr.seq k.fr fun x hx hT => by rcases h.own x hT with h1 | h1; exact h1; omega, fun b hb => by
    rcases k.own b hb with h1 | h1
    · exact h.own b h1
    · have := h.fr.size; right; omega⟩
theorem SW.after (h : SW W T w X s T') (hb : Below w.heap.size w w') : SW W T w' X s T' :=
  ⟨h.at'.after hb, h.fr.seq (.of_below hb) fun x hx hT => by rcases h.own x hT with h1 | h1; exact h1; omega, h.own⟩
theorem SW.size (h : SW W T w X s T') : W.heap.size ≤ w.heap.size := h.fr.size
theorem SW.keep {F : (Nat → Prop) → World → Prop} (h : SW W T w X s T') (G : Goes F) {S : Nat → Prop} (hF : F S W) (hS : ∀ b, S b → ¬ T b) : F S w := G.keep hF h.fr.size fun b hs hb => h.fr.block b hb (hS b hs)
theorem SW.not (h : SW W T w X s T') {b : Nat} (hb : b < W.heap.size) (hT : ¬ T b) : ¬ T' b := fun e => by rcases h.own b e with h1 | h1; exact hT h1; omega
theorem SW.cell (h : SW W T w X s T') {b o : Nat} {v : Value} (hT : ¬ T b) (hc : W.cell? ⟨b, o, none⟩ = some v) : w.cell? ⟨b, o, none⟩ = some v := h.fr.cell hT hc
theorem SW.lt (h : SW W T w X s T') {b : Nat} (hb : T' b) : b < w.heap.size := h.at'.lt b hb
theorem SW.as (h : SW W T w X s T') (e : s = s') : SW W T w X s' T' := e ▸ h
theorem SW.ne (h : SW W T w X s T') {b : Nat} (hb : w.heap.size ≤ b) : ¬ T' b := fun e => by have := h.lt e; omega
/-- behind a writing: the row has grown, the box is set -/
theorem StW.push {A A5 : Option Addr} {n c m5 d5 : Nat} {bs cs : B} {w5 : World} {r : Wr} {u v : Value} (hlt : ∀ b, T b → b < w.heap.size) (hX : T X) (hO : OwnB T w A n c bs) (hB : Bx (fun b => b = X) w5 X [.bool true, u, v]) (h3 : ∀ b, A.map (·.block) = some b → b ≠ X)
    (g1 : Own 0 w5 A5 m5 d5 (bs ++ cs)) (g2 : w.grownBy w5 (A.map (·.block))) (g3 : ∀ b, A5.map (·.block) = some b → A.map (·.block) = some b ∨ w.heap.size ≤ b) (hv : ∀ b, r = .ok b → cs = b) (hn : ∀ x, r = .error x → x ≠ 0) :
    ∃ T', SW w T ((w5.setCell ⟨X, 1, none⟩ (.slice A5 m5 d5)).setCell ⟨X, 2, none⟩ (.int .i64 (werr r))) X (bothW (.ok bs) r) T' := by
  have hg := grow_seq (grow_setCell w5 X 1 (.slice A5 m5 d5)) (grow_setCell (w5.setCell ⟨X, 1, none⟩ (.slice A5 m5 d5)) X 2 (.int .i64 (werr r))) (fun _ e => .inr e)
  have hz5 : w.heap.size ≤ w5.heap.size := g2.size
  have hXw := hlt X hX
  have hO5 : OwnB (fun b => b ≠ X ∧ (T b ∨ (w.heap.size ≤ b ∧ b < w5.heap.size))) w5 A5 m5 d5 (bs ++ cs) := by
    refine ⟨g1, fun b e => ?_⟩
    have hb5 := (g1.block b e).2
    rcases g3 b e with h | h
    · exact ⟨h3 b h, .inl (hO.2 b h)⟩
    · exact ⟨by omega, .inr ⟨h, hb5⟩⟩
  have hO6 := goesOwnB.keep hO5 hg.size fun b hb hl => hg.block b hl fun e => hb.1 (by injection e)
  have hB6 := (hB.put 1 (.slice A5 m5 d5) (by show 1 < 3; decide)).put 2 (.int .i64 (werr r)) (by show 2 < 3; decide)
  refine ⟨fun b => T b ∨ (w.heap.size ≤ b ∧ b < w5.heap.size), ⟨.inl hX, fun b hb => ?_, A5, m5, d5, bs ++ cs, hO6.mono fun b hb _ => hb.2, ?_, fun b e => (hO5.2 b e).1, ?_, ?_⟩, (Fr.of_grown g2 fun b e => hO.2 b e).seq (Fr.of_grown hg fun b e => by injection e with e; rw [← e]; exact hX) (fun x hx h => h), fun b hb => by rcases hb with h | h; exact .inl h; exact .inr h.1⟩
  · have h6 : ((w5.setCell ⟨X, 1, none⟩ (.slice A5 m5 d5)).setCell ⟨X, 2, none⟩ (.int .i64 (werr r))).heap.size = w5.heap.size := by simp
    rcases hb with h | h
    · have := hlt b h; omega
    · omega
  · have he : werr r = werr (bothW (.ok bs) r) := by cases r <;> rfl
    rw [← he]
    exact Bx.mono hB6 fun b hb _ => by rw [hb]; exact .inl hX
  · intro b hb
    cases r with
    | error x => cases hb
    | ok x => injection hb with hb; rw [← hb, hv x rfl]
  · intro x hx
    cases r with
    | error y => injection hx with hx; subst hx; exact hn _ rfl
    | ok y => cases hx
end
end Go.Proofs.Sb
