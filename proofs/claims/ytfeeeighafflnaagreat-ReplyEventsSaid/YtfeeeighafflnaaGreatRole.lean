/- Words for frames: blocks have roles; what turns the blocks of one role leaves those of the others. No conditions. (written by gen_role.py) -/
import Derived.Test.YtfeeeighafflnaaGreatArr
import Derived.Deep.MidRow
import Derived.Deep.WholeRow
import Derived.Laws.ResultCell
import Derived.Test.YtfeeeighafflnaaGreatBase
import Derived.Says
set_option linter.unusedVariables false
set_option linter.unusedSimpArgs false
namespace Go.Proofs.Sb
open Go.RowKit _root_.Sb

/-- what lies in no block of S is as it was -/
structure Fr (S : Nat → Prop) (w w' : World) : Prop where
  os : w'.os = w.os
  tape : w'.tape = w.tape
  output : w'.output = w.output
  size : w.heap.size ≤ w'.heap.size
  block : ∀ b, b < w.heap.size → ¬ S b → w'.heap[b]? = w.heap[b]?
section
variable {S S' : Nat → Prop} {w w' a b c : World}
theorem Fr.refl (S : Nat → Prop) (w : World) : Fr S w w := ⟨rfl, rfl, rfl, Nat.le_refl _, fun _ _ _ => rfl⟩
theorem Fr.seq (h : Fr S a b) (k : Fr S' b c) (hS : ∀ x, x < a.heap.size → S' x → S x) : Fr S a c :=
  ⟨k.os.trans h.os, k.tape.trans h.tape, k.output.trans h.output, Nat.le_trans h.size k.size, fun i hi hn => (k.block i (Nat.lt_of_lt_of_le hi h.size) (fun e => hn (hS i hi e))).trans (h.block i hi hn)⟩
theorem Fr.trans (h : Fr S a b) (k : Fr S b c) : Fr S a c := h.seq k fun _ _ h => h
theorem Fr.of_below (h : Below w.heap.size w w') : Fr S w w' := ⟨h.os, h.tape, h.output, h.size, fun b hb _ => h.block b hb⟩
theorem Fr.of_grown {row : Option Nat} (h : w.grownBy w' row) (hr : ∀ b, row = some b → S b) : Fr S w w' := ⟨h.os, h.tape, h.output, h.size, fun b hb hn => h.block b hb fun e => hn (hr b e.symm)⟩
theorem Fr.set (w : World) {X i : Nat} (hX : S X) (v : Value) : Fr S w (w.setCell ⟨X, i, none⟩ v) := .of_grown (grow_setCell w X i v) fun b e => by injection e with e; subst e; exact hX
theorem Fr.imp (h : Fr S w w') (hS : ∀ b, b < w.heap.size → S b → S' b) : Fr S' w w' := ⟨h.os, h.tape, h.output, h.size, fun b hb hn => h.block b hb fun e => hn (hS b hb e)⟩
theorem Fr.below (h : Fr S w w') {N : Nat} (hN : N ≤ w.heap.size) (hS : ∀ b, b < N → ¬ S b) : Below N w w' := ⟨h.os, h.tape, h.output, h.size, fun b hb => h.block b (by omega) (hS b hb)⟩
theorem Fr.cell (h : Fr S w w') {b o : Nat} {v : Value} (hb : ¬ S b) (hc : w.cell? ⟨b, o, none⟩ = some v) : w'.cell? ⟨b, o, none⟩ = some v :=
  (World.cell?_of_block (h.block b (World.block_lt_of_cell? w ⟨b, o, none⟩ hc) hb)).trans hc
theorem Fr.froz (h : Fr S w w') {b o : Nat} {x : Bool} (hb : ¬ S b) (hlt : b < w.heap.size) (hc : w.frozen? ⟨b, o, none⟩ = x) : w'.frozen? ⟨b, o, none⟩ = x := (World.frozen?_of_block (a := ⟨b, o, none⟩) (h.block b hlt hb)).trans hc
end

/-- the blocks of role r -/
abbrev Rl (ρ : Nat → Nat) (r : Nat) : Nat → Prop := fun b => ρ b = r
/-- the blocks from N on get role r -/
def xt (ρ : Nat → Nat) (N r : Nat) : Nat → Nat := fun b => if b < N then ρ b else r
theorem xt_lt {ρ : Nat → Nat} {N r b : Nat} (h : b < N) : xt ρ N r b = ρ b := if_pos h
theorem xt_ge {ρ : Nat → Nat} {N r b : Nat} (h : N ≤ b) : xt ρ N r b = r := if_neg (by omega)
theorem Fr.ext {ρ : Nat → Nat} {r : Nat} {w w' : World} (h : Fr (Rl ρ r) w w') (t : Nat) {N : Nat} (hN : w.heap.size ≤ N) : Fr (Rl (xt ρ N t) r) w w' := h.imp fun b hb e => by show xt ρ N t b = r; rw [xt_lt (by omega)]; exact e

/-- a kind of facts F S w, of the blocks S in the world w, that goes over a step -/
structure Goes (F : (Nat → Prop) → World → Prop) : Prop where
  keep : ∀ {S : Nat → Prop} {w w' : World}, F S w → w.heap.size ≤ w'.heap.size → (∀ b, S b → b < w.heap.size → w'.heap[b]? = w.heap[b]?) → F S w'
  mono : ∀ {S S' : Nat → Prop} {w : World}, F S w → (∀ b, S b → b < w.heap.size → S' b) → F S' w
section
variable {F : (Nat → Prop) → World → Prop} {ρ : Nat → Nat} {r s : Nat} {S S' : Nat → Prop} {w w' : World}
/-- behind a step that turns another role's blocks; the blocks from N on get role t -/
theorem Goes.step (G : Goes F) (h : F (Rl ρ s) w) (hf : Fr (Rl ρ r) w w') (hd : s ≠ r) (t : Nat) {N : Nat} (hN : w.heap.size ≤ N) : F (Rl (xt ρ N t) s) w' :=
  G.mono (G.keep (G.mono (S' := fun b => Rl ρ s b ∧ b < w.heap.size) h fun _ h1 h2 => ⟨h1, h2⟩) hf.size fun b hs hb => hf.block b hb fun e => hd (hs.1.symm.trans e)) fun b hs _ => by show xt ρ N t b = s; rw [xt_lt (by have := hs.2; omega)]; exact hs.1
/-- the same, the roles as they were -/
theorem Goes.stay (G : Goes F) (h : F (Rl ρ s) w) (hf : Fr (Rl ρ r) w w') (hd : s ≠ r) : F (Rl ρ s) w' :=
  G.keep h hf.size fun b hs hb => hf.block b hb fun e => hd (hs.symm.trans e)
theorem Goes.after (G : Goes F) (h : F S w) (hb : Below w.heap.size w w') : F S w' := G.keep h hb.size fun b _ hlt => hb.block b hlt
/-- the roles told anew from N on -/
theorem Goes.ext (G : Goes F) (h : F (Rl ρ s) w) (t : Nat) {N : Nat} (hN : w.heap.size ≤ N) : F (Rl (xt ρ N t) s) w := G.mono h fun b e hb => by show xt ρ N t b = s; rw [xt_lt (by omega)]; exact e
/-- what lies in new blocks -/
theorem Goes.new (G : Goes F) (h : F S w) (ρ : Nat → Nat) (t : Nat) {N : Nat} (hS : ∀ b, S b → N ≤ b) : F (Rl (xt ρ N t) t) w := G.mono h fun b e _ => xt_ge (hS b e)
end

section
variable {F : (Nat → Prop) → World → Prop} {ρ : Nat → Nat} {s : Nat} {w w' : World}
/-- a new block of role t, those behind it of role u -/
theorem Goes.two (G : Goes F) (h : F (Rl ρ s) w) (hb : Below w.heap.size w w') (t u : Nat) : F (Rl (xt (xt ρ w.heap.size t) (w.heap.size + 1) u) s) w' := G.after (G.ext (G.ext h t (Nat.le_refl _)) u (Nat.le_succ _)) hb
end
theorem two_at {ρ : Nat → Nat} {N t u : Nat} : Rl (xt (xt ρ N t) (N + 1) u) t N := by show xt (xt ρ N t) (N + 1) u N = t; rw [xt_lt (Nat.lt_succ_self _), xt_ge (Nat.le_refl _)]
theorem two_ge {ρ : Nat → Nat} {N t u b : Nat} (h : N + 1 ≤ b) : Rl (xt (xt ρ N t) (N + 1) u) u b := xt_ge h
/-- how far a walk has come from the world W on: what turned are blocks of T, and new ones; old blocks but those of T have role 0 -/
structure Bs (ρ : Nat → Nat) (T : Nat → Prop) (W w : World) : Prop where
  role : ∀ b, b < W.heap.size → ¬ T b → ρ b = 0
  fr : Fr T W w
section
variable {ρ : Nat → Nat} {r s : Nat} {T : Nat → Prop} {W w w' : World}
theorem Bs.step (h : Bs ρ T W w) (hf : Fr (Rl ρ r) w w') (hd : (0 : Nat) ≠ r := by decide) (t : Nat) {N : Nat} (hN : w.heap.size ≤ N := by exact Nat.le_refl _) : Bs (xt ρ N t) T W w' :=
  ⟨fun b hb hT => by rw [xt_lt (by have := h.fr.size; omega)]; exact h.role b hb hT, h.fr.seq hf fun b hb e => Classical.byContradiction fun hT => hd ((h.role b hb hT).symm.trans e)⟩
theorem Bs.stepx (h : Bs ρ T W w) (hf : Fr (Rl ρ r) w w') {ρ' : Nat → Nat} {t N : Nat} (hx : ρ' = xt ρ N t) (hd : (0 : Nat) ≠ r := by decide) (hN : w.heap.size ≤ N := by exact Nat.le_refl _) : Bs ρ' T W w' := hx ▸ h.step hf hd t hN
theorem Bs.stay (h : Bs ρ T W w) (hf : Fr (Rl ρ r) w w') (hd : (0 : Nat) ≠ r := by decide) : Bs ρ T W w' :=
  ⟨h.role, h.fr.seq hf fun b hb e => Classical.byContradiction fun hT => hd ((h.role b hb hT).symm.trans e)⟩
theorem Bs.after (h : Bs ρ T W w) (hb : Below w.heap.size w w') : Bs ρ T W w' := ⟨h.role, h.fr.trans (.of_below hb)⟩
theorem Bs.ext (h : Bs ρ T W w) (t : Nat) {N : Nat} (hN : w.heap.size ≤ N := by exact Nat.le_refl _) : Bs (xt ρ N t) T W w := ⟨fun b hb hT => by rw [xt_lt (by have := h.fr.size; omega)]; exact h.role b hb hT, h.fr⟩
theorem Bs.two (h : Bs ρ T W w) (hb : Below w.heap.size w w') (t u : Nat) : Bs (xt (xt ρ w.heap.size t) (w.heap.size + 1) u) T W w' := ((h.ext t).ext u (Nat.le_succ _)).after hb
theorem Bs.size (h : Bs ρ T W w) : W.heap.size ≤ w.heap.size := h.fr.size
theorem Bs.below (h : Bs ρ (fun _ => False) W w) : Below W.heap.size W w := h.fr.below (Nat.le_refl _) fun _ _ h => h
/-- a role but 0 lies in new blocks -/
theorem Bs.ge (h : Bs ρ (fun _ => False) W w) {b : Nat} (hb : ρ b = r) (hr : r ≠ 0) : W.heap.size ≤ b := by
  rcases Nat.lt_or_ge b W.heap.size with h1 | h1
  · exact absurd (hb.symm.trans (h.role b h1 (fun h => h))) hr
  · exact h1
theorem Bs.start (W : World) (t : Nat) : Bs (xt (fun _ => 0) W.heap.size t) (fun _ => False) W W := ⟨fun b hb _ => xt_lt hb, .refl _ _⟩
end
theorem goes0 {F : (Nat → Prop) → World → Prop} (G : Goes F) {S : Nat → Prop} {w : World} (h : F S w) (t : Nat) : F (Rl (xt (fun _ => 0) w.heap.size t) 0) w := G.mono h fun b _ hb => xt_lt hb

/-- a box of cells of the call's own -/
structure Bx (S : Nat → Prop) (w : World) (X : Nat) (vs : List Value) : Prop where
  role : S X
  lt : X < w.heap.size
  c : ∀ (i : Nat) (v : Value), vs[i]? = some v → w.cell? ⟨X, i, none⟩ = some v
  fr : ∀ o, w.frozen? ⟨X, o, none⟩ = false
theorem goesBx {X : Nat} {vs : List Value} : Goes fun S w => Bx S w X vs :=
  ⟨fun h hs hk => ⟨h.role, Nat.lt_of_lt_of_le h.lt hs, fun i v e => (World.cell?_of_block (hk X h.role h.lt)).trans (h.c i v e), fun o => (World.frozen?_of_block (a := ⟨X, o, none⟩) (hk X h.role h.lt)).trans (h.fr o)⟩, fun h hS => ⟨hS X h.role h.lt, h.lt, h.c, h.fr⟩⟩
section
variable {S : Nat → Prop} {w : World} {X : Nat} {vs : List Value}
theorem Bx.put (h : Bx S w X vs) (i : Nat) (u : Value) (hi : i < vs.length) : Bx S (w.setCell ⟨X, i, none⟩ u) X (vs.set i u) := by
  refine ⟨h.role, by simpa using h.lt, fun j v e => ?_, fun o => by simp [h.fr]⟩
  by_cases hij : j = i
  · subst hij
    rw [List.getElem?_set_self hi] at e
    injection e with e
    subst e
    have := h.c j _ (List.getElem?_eq_getElem hi)
    go_simp
  · rw [List.getElem?_set_ne (fun e => hij e.symm)] at e
    have := h.c j v e
    have hij2 : ¬ i = j := fun e => hij e.symm
    go_simp
theorem Bx.frPut (h : Bx S w X vs) (i : Nat) (u : Value) : Fr S w (w.setCell ⟨X, i, none⟩ u) := Fr.set w h.role u
theorem Bx.alloc (w : World) (a : Array Value) (t : TypeId) (hS : S w.heap.size) {X : Nat} (hX : X = w.heap.size := by rfl) : Bx S (w.alloc (.cells a t)) X a.toList := by
  subst hX
  refine ⟨hS, by simp, fun i v e => ?_, fun o => by go_simp⟩
  unfold World.cell?
  rw [heap_alloc_new]
  simpa using e
end

/-- a row of the call's own, in a block of S -/
def OwnS {α : Type} (e : TypeId) (k : Nat) (P : α → List Value → Prop) (S : Nat → Prop) (w : World) (A : Option Addr) (n c : Nat) (l : List α) : Prop := OwnA e k P 0 w A n c l ∧ ∀ b, A.map (·.block) = some b → S b
def OwnB (S : Nat → Prop) (w : World) (A : Option Addr) (n c : Nat) (bs : B) : Prop := Own 0 w A n c bs ∧ ∀ b, A.map (·.block) = some b → S b
theorem OwnA.keepS {α : Type} {e : TypeId} {k : Nat} {P : α → List Value → Prop} {base : Nat} {w w' : World} {A : Option Addr} {n c : Nat} {l : List α} (h : OwnA e k P base w A n c l) {S : Nat → Prop} (hA : ∀ b, A.map (·.block) = some b → S b) (hk : ∀ b, S b → b < w.heap.size → w'.heap[b]? = w.heap[b]?) : OwnA e k P base w' A n c l := by
  obtain ⟨vs, h0, h⟩ := h
  refine ⟨vs, h0, h.1, ?_⟩
  rcases h.2 with h2 | ⟨g, cap, cur, e, hbg, hgg, r⟩
  · exact .inl h2
  · exact .inr ⟨g, cap, cur, e, hbg, (hk g (hA g (by injection e with e1; rw [e1]; rfl)) (Array.getElem?_eq_some_iff.1 hgg).1).trans hgg, r⟩
theorem goesOwnS {α : Type} {e : TypeId} {k : Nat} {P : α → List Value → Prop} {A : Option Addr} {n c : Nat} {l : List α} : Goes fun S w => OwnS e k P S w A n c l :=
  ⟨fun h _ hk => ⟨h.1.keepS h.2 hk, h.2⟩, fun h hS => ⟨h.1, fun b e => hS b (h.2 b e) (h.1.block b e).2⟩⟩
theorem goesOwnB {A : Option Addr} {n c : Nat} {bs : B} : Goes fun S w => OwnB S w A n c bs :=
  ⟨fun h _ hk => ⟨Own.ofA (h.1.toA.keepS h.2 hk), h.2⟩, fun h hS => ⟨h.1, fun b e => hS b (h.2 b e) (h.1.block b e).2⟩⟩
section
variable {α : Type} {e : TypeId} {k : Nat} {P P' : α → List Value → Prop} {S : Nat → Prop} {w w' : World} {A : Option Addr} {n c : Nat} {l : List α} {bs : B}
theorem OwnS.nil : OwnS (α := α) e k P S w none 0 0 [] := ⟨OwnA.nil, fun b h => by cases h⟩
theorem OwnB.nil : OwnB S w none 0 0 [] := ⟨Own.nil, fun b h => by cases h⟩
theorem OwnS.imp (h : OwnS e k P S w A n c l) (hi : ∀ x ∈ l, ∀ v, P x v → P' x v) : OwnS e k P' S w A n c l := ⟨h.1.imp hi, h.2⟩
theorem OwnS.len (hk : 0 < k) (h : OwnS e k P S w A n c l) : n = l.length := h.1.len hk
theorem OwnB.len (h : OwnB S w A n c bs) : n = bs.length := h.1.len
theorem OwnS.arr (hk : 0 < k) (h : OwnS e k P S w A n c l) : Arr k P S w A n c l := (h.1.arr hk).mono fun b hb _ => h.2 b hb.2
theorem OwnB.sl (h : OwnB S w A n c bs) : Sl S w A n c bs := h.1.slb.mono fun b hb _ => h.2 b hb.2
theorem OwnB.own (h : OwnB S w A n c bs) {N : Nat} (hN : ∀ b, S b → N ≤ b) : Own N w A n c bs := by
  refine ⟨h.1.1, ?_⟩
  rcases h.1.2 with h2 | ⟨g, cap, cur, e, hbg, r⟩
  · exact .inl h2
  · exact .inr ⟨g, cap, cur, e, hN g (h.2 g (by injection e with e1; rw [e1]; rfl)), r⟩
theorem OwnB.as {cs : B} (h : OwnB S w A n c bs) (e : bs = cs) : OwnB S w A n c cs := e ▸ h
theorem OwnS.as {l' : List α} (h : OwnS e k P S w A n c l) (e1 : l = l') : OwnS e k P S w A n c l' := e1 ▸ h
theorem OwnA.ownS {base : Nat} (h : OwnA e k P base w A n c l) (hS : ∀ b, base ≤ b → S b) : OwnS e k P S w A n c l := ⟨h.mono (Nat.zero_le _), fun b e => hS b (h.block b e).1⟩
theorem Own.ownB {base : Nat} (h : Own base w A n c bs) (hS : ∀ b, base ≤ b → S b) : OwnB S w A n c bs := ⟨h.mono (Nat.zero_le _), fun b e => hS b (h.block b e).1⟩
end

/-! append onto a row of role r: behind it the new blocks have role r too -/
theorem grow_role {ρ : Nat → Nat} {r : Nat} {w : World} {A A' : Option Addr} (hA : ∀ b, A.map (·.block) = some b → ρ b = r) (hAlt : ∀ b, A.map (·.block) = some b → b < w.heap.size) (hw : ∀ b, A'.map (·.block) = some b → A.map (·.block) = some b ∨ w.heap.size ≤ b) : ∀ b, A'.map (·.block) = some b → xt ρ w.heap.size r b = r := fun b e => by
  rcases hw b e with h | h
  · rw [xt_lt (hAlt b h)]; exact hA b h
  · exact xt_ge h
theorem wpList_appR {w : World} {ops : Array Oper} {rest : List Oper} {o : Oper} {a : Act} {Q : Exit → Act → World → Prop} (hgd : o.guard = none) {t e : TypeId} {k bytes : Nat} {z : Value} (T : Ty t e k bytes z) (s x : Operand)
    (ho : o.op = .call { callee := .builtin .append, args := #[s, x], argTypes := #[t, t] })
    {α : Type} {P P2 : α → List Value → Prop} {ρ : Nat → Nat} {r : Nat} (A : Option Addr) (n c : Nat) (l : List α) (hs : a.eval s = .slice A n c) (hown : OwnS e k P (Rl ρ r) w A n c l)
    (S : Nat → Prop) (A2 : Option Addr) (m c2 : Nat) (l2 : List α) (hx : a.eval x = .slice A2 m c2) (hr : Arr k P2 S w A2 m c2 l2) (hP : ∀ x v, P2 x v → ∀ u ∈ v, u.oneCell' = true) (h21 : ∀ x ∈ l2, ∀ v, P2 x v → P x v)
    (hbytes : (n + m) * bytes ≤ 140737488355328) (h63 : n + m ≤ maxLen)
    (h : ∀ A' n' c' w', OwnS e k P (Rl (xt ρ w.heap.size r) r) w' A' n' c' (l ++ l2) → Fr (Rl ρ r) w w' → wpList Tryz.prog ops Q rest (a.put o.dst (.slice A' n' c')) w') : wpList Tryz.prog ops Q (o :: rest) a w :=
  wpList_appA hgd T s x ho 0 A n c l hs hown.1 S A2 m c2 l2 hx hr hP h21 hbytes h63 (Nat.zero_le _) fun A' n' c' w' g1 g2 g3 => h A' n' c' w' ⟨g1, grow_role hown.2 (fun b e => (hown.1.block b e).2) g3⟩ (Fr.of_grown g2 hown.2)
theorem wpList_appX {w : World} {ops : Array Oper} {rest : List Oper} {o : Oper} {a : Act} {Q : Exit → Act → World → Prop} (hgd : o.guard = none) {t e : TypeId} {k bytes : Nat} {z : Value} (T : Ty t e k bytes z) (s x : Operand)
    (ho : o.op = .call { callee := .builtin .append, args := #[s, x], argTypes := #[t, t] })
    {α : Type} {P P2 : α → List Value → Prop} {ρ : Nat → Nat} {r : Nat} (A : Option Addr) (n c : Nat) (l : List α) (hs : a.eval s = .slice A n c) (hown : OwnS e k P (Rl ρ r) w A n c l)
    (S : Nat → Prop) (A2 : Option Addr) (m c2 : Nat) (l2 : List α) (hx : a.eval x = .slice A2 m c2) (hr : Arr k P2 S w A2 m c2 l2) (hP : ∀ x v, P2 x v → ∀ u ∈ v, u.oneCell' = true) (h21 : ∀ x ∈ l2, ∀ v, P2 x v → P x v)
    (hbytes : (n + m) * bytes ≤ 140737488355328) (h63 : n + m ≤ maxLen)
    (h : ∀ A' n' c' w' ρ', ρ' = xt ρ w.heap.size r → OwnS e k P (Rl ρ' r) w' A' n' c' (l ++ l2) → Fr (Rl ρ r) w w' → wpList Tryz.prog ops Q rest (a.put o.dst (.slice A' n' c')) w') : wpList Tryz.prog ops Q (o :: rest) a w :=
  wpList_appR hgd T s x ho A n c l hs hown S A2 m c2 l2 hx hr hP h21 hbytes h63 fun A' n' c' w' h1 h2 => h A' n' c' w' _ rfl h1 h2
theorem step_appR {w : World} {ops : Array Oper} {o : Oper} {a : Act} {K : Act → World → Prop} {Q : Exit → Act → World → Prop} {E : Prop} (hgd : o.guard = none) {t e : TypeId} {k bytes : Nat} {z : Value} (T : Ty t e k bytes z) (s x : Operand)
    (ho : o.op = .call { callee := .builtin .append, args := #[s, x], argTypes := #[t, t] })
    {α : Type} {P P2 : α → List Value → Prop} {ρ : Nat → Nat} {r : Nat} (A : Option Addr) (n c : Nat) (l : List α) (hs : a.eval s = .slice A n c) (hown : OwnS e k P (Rl ρ r) w A n c l)
    (S : Nat → Prop) (A2 : Option Addr) (m c2 : Nat) (l2 : List α) (hx : a.eval x = .slice A2 m c2) (hr : Arr k P2 S w A2 m c2 l2) (hP : ∀ x v, P2 x v → ∀ u ∈ v, u.oneCell' = true) (h21 : ∀ x ∈ l2, ∀ v, P2 x v → P x v)
    (hbytes : (n + m) * bytes ≤ 140737488355328) (h63 : n + m ≤ maxLen)
    (h : ∀ A' n' c' w', OwnS e k P (Rl (xt ρ w.heap.size r) r) w' A' n' c' (l ++ l2) → Fr (Rl ρ r) w w' → K (a.put o.dst (.slice A' n' c')) w') :
    if Region.wanted o (yielded ops a.tmps) = true then Oper.wp Tryz.prog o a w K Q else E :=
  step_appA hgd T s x ho 0 A n c l hs hown.1 S A2 m c2 l2 hx hr hP h21 hbytes h63 (Nat.zero_le _) fun A' n' c' w' g1 g2 g3 => h A' n' c' w' ⟨g1, grow_role hown.2 (fun b e => (hown.1.block b e).2) g3⟩ (Fr.of_grown g2 hown.2)
theorem wpList_appB {w : World} {ops : Array Oper} {rest : List Oper} {o : Oper} {a : Act} {Q : Exit → Act → World → Prop} (hgd : o.guard = none) (s x : Operand)
    (ho : o.op = .call { callee := .builtin .append, args := #[s, x], argTypes := #[25, 25] })
    {ρ : Nat → Nat} {r : Nat} (A : Option Addr) (n c : Nat) (bs : B) (hs : a.eval s = .slice A n c) (hown : OwnB (Rl ρ r) w A n c bs)
    (S : Nat → Prop) (A2 : Option Addr) (m c2 : Nat) (cs : B) (hx : a.eval x = .slice A2 m c2) (hr : Sl S w A2 m c2 cs)
    (hbytes : bs.length + cs.length ≤ 140737488355328)
    (h : ∀ A' n' c' w', OwnB (Rl (xt ρ w.heap.size r) r) w' A' n' c' (bs ++ cs) → Fr (Rl ρ r) w w' → wpList Tryz.prog ops Q rest (a.put o.dst (.slice A' n' c')) w') : wpList Tryz.prog ops Q (o :: rest) a w :=
  wpList_appw hgd s x ho 0 A n c bs hs hown.1 S A2 m c2 cs hx hr hbytes (Nat.zero_le _) fun A' n' c' w' g1 g2 g3 => h A' n' c' w' ⟨g1, grow_role hown.2 (fun b e => (hown.1.block b e).2) g3⟩ (Fr.of_grown g2 hown.2)
theorem wpList_appXB {w : World} {ops : Array Oper} {rest : List Oper} {o : Oper} {a : Act} {Q : Exit → Act → World → Prop} (hgd : o.guard = none) (s x : Operand)
    (ho : o.op = .call { callee := .builtin .append, args := #[s, x], argTypes := #[25, 25] })
    {ρ : Nat → Nat} {r : Nat} (A : Option Addr) (n c : Nat) (bs : B) (hs : a.eval s = .slice A n c) (hown : OwnB (Rl ρ r) w A n c bs)
    (S : Nat → Prop) (A2 : Option Addr) (m c2 : Nat) (cs : B) (hx : a.eval x = .slice A2 m c2) (hr : Sl S w A2 m c2 cs)
    (hbytes : bs.length + cs.length ≤ 140737488355328)
    (h : ∀ A' n' c' w' ρ', ρ' = xt ρ w.heap.size r → OwnB (Rl ρ' r) w' A' n' c' (bs ++ cs) → Fr (Rl ρ r) w w' → wpList Tryz.prog ops Q rest (a.put o.dst (.slice A' n' c')) w') : wpList Tryz.prog ops Q (o :: rest) a w :=
  wpList_appB hgd s x ho A n c bs hs hown S A2 m c2 cs hx hr hbytes fun A' n' c' w' h1 h2 => h A' n' c' w' _ rfl h1 h2
theorem step_appB {w : World} {ops : Array Oper} {o : Oper} {a : Act} {K : Act → World → Prop} {Q : Exit → Act → World → Prop} {E : Prop} (hgd : o.guard = none) (s x : Operand)
    (ho : o.op = .call { callee := .builtin .append, args := #[s, x], argTypes := #[25, 25] })
    {ρ : Nat → Nat} {r : Nat} (A : Option Addr) (n c : Nat) (bs : B) (hs : a.eval s = .slice A n c) (hown : OwnB (Rl ρ r) w A n c bs)
    (S : Nat → Prop) (A2 : Option Addr) (m c2 : Nat) (cs : B) (hx : a.eval x = .slice A2 m c2) (hr : Sl S w A2 m c2 cs)
    (hbytes : bs.length + cs.length ≤ 140737488355328)
    (h : ∀ A' n' c' w', OwnB (Rl (xt ρ w.heap.size r) r) w' A' n' c' (bs ++ cs) → Fr (Rl ρ r) w w' → K (a.put o.dst (.slice A' n' c')) w') :
    if Region.wanted o (yielded ops a.tmps) = true then Oper.wp Tryz.prog o a w K Q else E :=
  step_appw hgd s x ho 0 A n c bs hs hown.1 S A2 m c2 cs hx hr hbytes (Nat.zero_le _) fun A' n' c' w' g1 g2 g3 => h A' n' c' w' ⟨g1, grow_role hown.2 (fun b e => (hown.1.block b e).2) g3⟩ (Fr.of_grown g2 hown.2)
theorem goesSl {A : Option Addr} {n c : Nat} {bs : B} : Goes fun S w => Sl S w A n c bs := ⟨fun h hs hk => ⟨h.1, h.2.1, h.2.2.1, h.2.2.2.keep hs hk⟩, fun h hS => h.mono hS⟩
theorem Sl.step {A : Option Addr} {n c : Nat} {bs : B} {ρ : Nat → Nat} {r s : Nat} {w w' : World} (h : Sl (Rl ρ s) w A n c bs) (hf : Fr (Rl ρ r) w w') (t : Nat) (hd : s ≠ r := by decide) {N : Nat} (hN : w.heap.size ≤ N := by exact Nat.le_refl _) : Sl (Rl (xt ρ N t) s) w' A n c bs := goesSl.step h hf hd t hN
theorem Sl.stepx {A : Option Addr} {n c : Nat} {bs : B} {ρ ρ' : Nat → Nat} {r s : Nat} {w w' : World} (h : Sl (Rl ρ s) w A n c bs) (hf : Fr (Rl ρ r) w w') {t N : Nat} (hx : ρ' = xt ρ N t) (hd : s ≠ r := by decide) (hN : w.heap.size ≤ N := by exact Nat.le_refl _) : Sl (Rl ρ' s) w' A n c bs := hx ▸ goesSl.step h hf hd t hN
theorem Sl.stay {A : Option Addr} {n c : Nat} {bs : B} {ρ : Nat → Nat} {r s : Nat} {w w' : World} (h : Sl (Rl ρ s) w A n c bs) (hf : Fr (Rl ρ r) w w') (hd : s ≠ r := by decide) : Sl (Rl ρ s) w' A n c bs := goesSl.stay h hf hd
theorem Sl.ext {A : Option Addr} {n c : Nat} {bs : B} {ρ : Nat → Nat} {s : Nat} {w : World} (h : Sl (Rl ρ s) w A n c bs) (t : Nat) {N : Nat} (hN : w.heap.size ≤ N := by exact Nat.le_refl _) : Sl (Rl (xt ρ N t) s) w A n c bs := goesSl.ext h t hN
theorem Sl.new {A : Option Addr} {n c : Nat} {bs : B} {S : Nat → Prop} {w : World} (h : Sl S w A n c bs) (ρ : Nat → Nat) (t : Nat) {N : Nat} (hS : ∀ b, S b → N ≤ b) : Sl (Rl (xt ρ N t) t) w A n c bs := goesSl.new h ρ t hS
theorem Sl.two {A : Option Addr} {n c : Nat} {bs : B} {ρ : Nat → Nat} {s : Nat} {w w' : World} (h : Sl (Rl ρ s) w A n c bs) (hb : Below w.heap.size w w') (t u : Nat) : Sl (Rl (xt (xt ρ w.heap.size t) (w.heap.size + 1) u) s) w' A n c bs := goesSl.two h hb t u
theorem Sl.role0 {A : Option Addr} {n c : Nat} {bs : B} {S : Nat → Prop} {w : World} (h : Sl S w A n c bs) (t : Nat) : Sl (Rl (xt (fun _ => 0) w.heap.size t) 0) w A n c bs := goes0 goesSl h t
theorem goesRd {A : Option Addr} {xs : List Value} : Goes fun S w => Rd S w A xs := ⟨fun h hs hk => h.keep hs hk, fun h hS => h.mono hS⟩
theorem Rd.step {A : Option Addr} {xs : List Value} {ρ : Nat → Nat} {r s : Nat} {w w' : World} (h : Rd (Rl ρ s) w A xs) (hf : Fr (Rl ρ r) w w') (t : Nat) (hd : s ≠ r := by decide) {N : Nat} (hN : w.heap.size ≤ N := by exact Nat.le_refl _) : Rd (Rl (xt ρ N t) s) w' A xs := goesRd.step h hf hd t hN
theorem Rd.stepx {A : Option Addr} {xs : List Value} {ρ ρ' : Nat → Nat} {r s : Nat} {w w' : World} (h : Rd (Rl ρ s) w A xs) (hf : Fr (Rl ρ r) w w') {t N : Nat} (hx : ρ' = xt ρ N t) (hd : s ≠ r := by decide) (hN : w.heap.size ≤ N := by exact Nat.le_refl _) : Rd (Rl ρ' s) w' A xs := hx ▸ goesRd.step h hf hd t hN
theorem Rd.stay {A : Option Addr} {xs : List Value} {ρ : Nat → Nat} {r s : Nat} {w w' : World} (h : Rd (Rl ρ s) w A xs) (hf : Fr (Rl ρ r) w w') (hd : s ≠ r := by decide) : Rd (Rl ρ s) w' A xs := goesRd.stay h hf hd
theorem Rd.ext {A : Option Addr} {xs : List Value} {ρ : Nat → Nat} {s : Nat} {w : World} (h : Rd (Rl ρ s) w A xs) (t : Nat) {N : Nat} (hN : w.heap.size ≤ N := by exact Nat.le_refl _) : Rd (Rl (xt ρ N t) s) w A xs := goesRd.ext h t hN
theorem Rd.new {A : Option Addr} {xs : List Value} {S : Nat → Prop} {w : World} (h : Rd S w A xs) (ρ : Nat → Nat) (t : Nat) {N : Nat} (hS : ∀ b, S b → N ≤ b) : Rd (Rl (xt ρ N t) t) w A xs := goesRd.new h ρ t hS
theorem Rd.two {A : Option Addr} {xs : List Value} {ρ : Nat → Nat} {s : Nat} {w w' : World} (h : Rd (Rl ρ s) w A xs) (hb : Below w.heap.size w w') (t u : Nat) : Rd (Rl (xt (xt ρ w.heap.size t) (w.heap.size + 1) u) s) w' A xs := goesRd.two h hb t u
theorem Rd.role0 {A : Option Addr} {xs : List Value} {S : Nat → Prop} {w : World} (h : Rd S w A xs) (t : Nat) : Rd (Rl (xt (fun _ => 0) w.heap.size t) 0) w A xs := goes0 goesRd h t
theorem goesArr {α : Type} {k : Nat} {P : α → List Value → Prop} {A : Option Addr} {n c : Nat} {l : List α} : Goes fun S w => Arr k P S w A n c l := ⟨fun h hs hk => let ⟨h1, h2, h3, vs, h4, h5⟩ := h; ⟨h1, h2, h3, vs, h4, h5.keep hs hk⟩, fun h hS => h.mono hS⟩
theorem Arr.step {α : Type} {k : Nat} {P : α → List Value → Prop} {A : Option Addr} {n c : Nat} {l : List α} {ρ : Nat → Nat} {r s : Nat} {w w' : World} (h : Arr k P (Rl ρ s) w A n c l) (hf : Fr (Rl ρ r) w w') (t : Nat) (hd : s ≠ r := by decide) {N : Nat} (hN : w.heap.size ≤ N := by exact Nat.le_refl _) : Arr k P (Rl (xt ρ N t) s) w' A n c l := goesArr.step h hf hd t hN
theorem Arr.stepx {α : Type} {k : Nat} {P : α → List Value → Prop} {A : Option Addr} {n c : Nat} {l : List α} {ρ ρ' : Nat → Nat} {r s : Nat} {w w' : World} (h : Arr k P (Rl ρ s) w A n c l) (hf : Fr (Rl ρ r) w w') {t N : Nat} (hx : ρ' = xt ρ N t) (hd : s ≠ r := by decide) (hN : w.heap.size ≤ N := by exact Nat.le_refl _) : Arr k P (Rl ρ' s) w' A n c l := hx ▸ goesArr.step h hf hd t hN
theorem Arr.stay {α : Type} {k : Nat} {P : α → List Value → Prop} {A : Option Addr} {n c : Nat} {l : List α} {ρ : Nat → Nat} {r s : Nat} {w w' : World} (h : Arr k P (Rl ρ s) w A n c l) (hf : Fr (Rl ρ r) w w') (hd : s ≠ r := by decide) : Arr k P (Rl ρ s) w' A n c l := goesArr.stay h hf hd
theorem Arr.ext {α : Type} {k : Nat} {P : α → List Value → Prop} {A : Option Addr} {n c : Nat} {l : List α} {ρ : Nat → Nat} {s : Nat} {w : World} (h : Arr k P (Rl ρ s) w A n c l) (t : Nat) {N : Nat} (hN : w.heap.size ≤ N := by exact Nat.le_refl _) : Arr k P (Rl (xt ρ N t) s) w A n c l := goesArr.ext h t hN
theorem Arr.new {α : Type} {k : Nat} {P : α → List Value → Prop} {A : Option Addr} {n c : Nat} {l : List α} {S : Nat → Prop} {w : World} (h : Arr k P S w A n c l) (ρ : Nat → Nat) (t : Nat) {N : Nat} (hS : ∀ b, S b → N ≤ b) : Arr k P (Rl (xt ρ N t) t) w A n c l := goesArr.new h ρ t hS
theorem Arr.two {α : Type} {k : Nat} {P : α → List Value → Prop} {A : Option Addr} {n c : Nat} {l : List α} {ρ : Nat → Nat} {s : Nat} {w w' : World} (h : Arr k P (Rl ρ s) w A n c l) (hb : Below w.heap.size w w') (t u : Nat) : Arr k P (Rl (xt (xt ρ w.heap.size t) (w.heap.size + 1) u) s) w' A n c l := goesArr.two h hb t u
theorem Arr.role0 {α : Type} {k : Nat} {P : α → List Value → Prop} {A : Option Addr} {n c : Nat} {l : List α} {S : Nat → Prop} {w : World} (h : Arr k P S w A n c l) (t : Nat) : Arr k P (Rl (xt (fun _ => 0) w.heap.size t) 0) w A n c l := goes0 goesArr h t
theorem Bx.after {X : Nat} {vs : List Value} {S : Nat → Prop} {w w' : World} (h : Bx S w X vs) (hb : Below w.heap.size w w') : Bx S w' X vs := goesBx.after h hb
theorem Bx.mono {X : Nat} {vs : List Value} {S S' : Nat → Prop} {w : World} (h : Bx S w X vs) (hS : ∀ b, S b → b < w.heap.size → S' b) : Bx S' w X vs := goesBx.mono h hS
theorem Bx.step {X : Nat} {vs : List Value} {ρ : Nat → Nat} {r s : Nat} {w w' : World} (h : Bx (Rl ρ s) w X vs) (hf : Fr (Rl ρ r) w w') (t : Nat) (hd : s ≠ r := by decide) {N : Nat} (hN : w.heap.size ≤ N := by exact Nat.le_refl _) : Bx (Rl (xt ρ N t) s) w' X vs := goesBx.step h hf hd t hN
theorem Bx.stepx {X : Nat} {vs : List Value} {ρ ρ' : Nat → Nat} {r s : Nat} {w w' : World} (h : Bx (Rl ρ s) w X vs) (hf : Fr (Rl ρ r) w w') {t N : Nat} (hx : ρ' = xt ρ N t) (hd : s ≠ r := by decide) (hN : w.heap.size ≤ N := by exact Nat.le_refl _) : Bx (Rl ρ' s) w' X vs := hx ▸ goesBx.step h hf hd t hN
theorem Bx.stay {X : Nat} {vs : List Value} {ρ : Nat → Nat} {r s : Nat} {w w' : World} (h : Bx (Rl ρ s) w X vs) (hf : Fr (Rl ρ r) w w') (hd : s ≠ r := by decide) : Bx (Rl ρ s) w' X vs := goesBx.stay h hf hd
theorem Bx.ext {X : Nat} {vs : List Value} {ρ : Nat → Nat} {s : Nat} {w : World} (h : Bx (Rl ρ s) w X vs) (t : Nat) {N : Nat} (hN : w.heap.size ≤ N := by exact Nat.le_refl _) : Bx (Rl (xt ρ N t) s) w X vs := goesBx.ext h t hN
theorem Bx.new {X : Nat} {vs : List Value} {S : Nat → Prop} {w : World} (h : Bx S w X vs) (ρ : Nat → Nat) (t : Nat) {N : Nat} (hS : ∀ b, S b → N ≤ b) : Bx (Rl (xt ρ N t) t) w X vs := goesBx.new h ρ t hS
theorem Bx.two {X : Nat} {vs : List Value} {ρ : Nat → Nat} {s : Nat} {w w' : World} (h : Bx (Rl ρ s) w X vs) (hb : Below w.heap.size w w') (t u : Nat) : Bx (Rl (xt (xt ρ w.heap.size t) (w.heap.size + 1) u) s) w' X vs := goesBx.two h hb t u
theorem Bx.role0 {X : Nat} {vs : List Value} {S : Nat → Prop} {w : World} (h : Bx S w X vs) (t : Nat) : Bx (Rl (xt (fun _ => 0) w.heap.size t) 0) w X vs := goes0 goesBx h t
theorem OwnS.after {α : Type} {e : TypeId} {k : Nat} {P : α → List Value → Prop} {A : Option Addr} {n c : Nat} {l : List α} {S : Nat → Prop} {w w' : World} (h : OwnS e k P S w A n c l) (hb : Below w.heap.size w w') : OwnS e k P S w' A n c l := goesOwnS.after h hb
theorem OwnS.mono {α : Type} {e : TypeId} {k : Nat} {P : α → List Value → Prop} {A : Option Addr} {n c : Nat} {l : List α} {S S' : Nat → Prop} {w : World} (h : OwnS e k P S w A n c l) (hS : ∀ b, S b → b < w.heap.size → S' b) : OwnS e k P S' w A n c l := goesOwnS.mono h hS
theorem OwnS.step {α : Type} {e : TypeId} {k : Nat} {P : α → List Value → Prop} {A : Option Addr} {n c : Nat} {l : List α} {ρ : Nat → Nat} {r s : Nat} {w w' : World} (h : OwnS e k P (Rl ρ s) w A n c l) (hf : Fr (Rl ρ r) w w') (t : Nat) (hd : s ≠ r := by decide) {N : Nat} (hN : w.heap.size ≤ N := by exact Nat.le_refl _) : OwnS e k P (Rl (xt ρ N t) s) w' A n c l := goesOwnS.step h hf hd t hN
theorem OwnS.stepx {α : Type} {e : TypeId} {k : Nat} {P : α → List Value → Prop} {A : Option Addr} {n c : Nat} {l : List α} {ρ ρ' : Nat → Nat} {r s : Nat} {w w' : World} (h : OwnS e k P (Rl ρ s) w A n c l) (hf : Fr (Rl ρ r) w w') {t N : Nat} (hx : ρ' = xt ρ N t) (hd : s ≠ r := by decide) (hN : w.heap.size ≤ N := by exact Nat.le_refl _) : OwnS e k P (Rl ρ' s) w' A n c l := hx ▸ goesOwnS.step h hf hd t hN
theorem OwnS.stay {α : Type} {e : TypeId} {k : Nat} {P : α → List Value → Prop} {A : Option Addr} {n c : Nat} {l : List α} {ρ : Nat → Nat} {r s : Nat} {w w' : World} (h : OwnS e k P (Rl ρ s) w A n c l) (hf : Fr (Rl ρ r) w w') (hd : s ≠ r := by decide) : OwnS e k P (Rl ρ s) w' A n c l := goesOwnS.stay h hf hd
theorem OwnS.ext {α : Type} {e : TypeId} {k : Nat} {P : α → List Value → Prop} {A : Option Addr} {n c : Nat} {l : List α} {ρ : Nat → Nat} {s : Nat} {w : World} (h : OwnS e k P (Rl ρ s) w A n c l) (t : Nat) {N : Nat} (hN : w.heap.size ≤ N := by exact Nat.le_refl _) : OwnS e k P (Rl (xt ρ N t) s) w A n c l := goesOwnS.ext h t hN
theorem OwnS.new {α : Type} {e : TypeId} {k : Nat} {P : α → List Value → Prop} {A : Option Addr} {n c : Nat} {l : List α} {S : Nat → Prop} {w : World} (h : OwnS e k P S w A n c l) (ρ : Nat → Nat) (t : Nat) {N : Nat} (hS : ∀ b, S b → N ≤ b) : OwnS e k P (Rl (xt ρ N t) t) w A n c l := goesOwnS.new h ρ t hS
theorem OwnS.two {α : Type} {e : TypeId} {k : Nat} {P : α → List Value → Prop} {A : Option Addr} {n c : Nat} {l : List α} {ρ : Nat → Nat} {s : Nat} {w w' : World} (h : OwnS e k P (Rl ρ s) w A n c l) (hb : Below w.heap.size w w') (t u : Nat) : OwnS e k P (Rl (xt (xt ρ w.heap.size t) (w.heap.size + 1) u) s) w' A n c l := goesOwnS.two h hb t u
theorem OwnS.role0 {α : Type} {e : TypeId} {k : Nat} {P : α → List Value → Prop} {A : Option Addr} {n c : Nat} {l : List α} {S : Nat → Prop} {w : World} (h : OwnS e k P S w A n c l) (t : Nat) : OwnS e k P (Rl (xt (fun _ => 0) w.heap.size t) 0) w A n c l := goes0 goesOwnS h t
theorem OwnB.after {A : Option Addr} {n c : Nat} {bs : B} {S : Nat → Prop} {w w' : World} (h : OwnB S w A n c bs) (hb : Below w.heap.size w w') : OwnB S w' A n c bs := goesOwnB.after h hb
theorem OwnB.mono {A : Option Addr} {n c : Nat} {bs : B} {S S' : Nat → Prop} {w : World} (h : OwnB S w A n c bs) (hS : ∀ b, S b → b < w.heap.size → S' b) : OwnB S' w A n c bs := goesOwnB.mono h hS
theorem OwnB.step {A : Option Addr} {n c : Nat} {bs : B} {ρ : Nat → Nat} {r s : Nat} {w w' : World} (h : OwnB (Rl ρ s) w A n c bs) (hf : Fr (Rl ρ r) w w') (t : Nat) (hd : s ≠ r := by decide) {N : Nat} (hN : w.heap.size ≤ N := by exact Nat.le_refl _) : OwnB (Rl (xt ρ N t) s) w' A n c bs := goesOwnB.step h hf hd t hN
theorem OwnB.stepx {A : Option Addr} {n c : Nat} {bs : B} {ρ ρ' : Nat → Nat} {r s : Nat} {w w' : World} (h : OwnB (Rl ρ s) w A n c bs) (hf : Fr (Rl ρ r) w w') {t N : Nat} (hx : ρ' = xt ρ N t) (hd : s ≠ r := by decide) (hN : w.heap.size ≤ N := by exact Nat.le_refl _) : OwnB (Rl ρ' s) w' A n c bs := hx ▸ goesOwnB.step h hf hd t hN
theorem OwnB.stay {A : Option Addr} {n c : Nat} {bs : B} {ρ : Nat → Nat} {r s : Nat} {w w' : World} (h : OwnB (Rl ρ s) w A n c bs) (hf : Fr (Rl ρ r) w w') (hd : s ≠ r := by decide) : OwnB (Rl ρ s) w' A n c bs := goesOwnB.stay h hf hd
theorem OwnB.ext {A : Option Addr} {n c : Nat} {bs : B} {ρ : Nat → Nat} {s : Nat} {w : World} (h : OwnB (Rl ρ s) w A n c bs) (t : Nat) {N : Nat} (hN : w.heap.size ≤ N := by exact Nat.le_refl _) : OwnB (Rl (xt ρ N t) s) w A n c bs := goesOwnB.ext h t hN
theorem OwnB.new {A : Option Addr} {n c : Nat} {bs : B} {S : Nat → Prop} {w : World} (h : OwnB S w A n c bs) (ρ : Nat → Nat) (t : Nat) {N : Nat} (hS : ∀ b, S b → N ≤ b) : OwnB (Rl (xt ρ N t) t) w A n c bs := goesOwnB.new h ρ t hS
theorem OwnB.two {A : Option Addr} {n c : Nat} {bs : B} {ρ : Nat → Nat} {s : Nat} {w w' : World} (h : OwnB (Rl ρ s) w A n c bs) (hb : Below w.heap.size w w') (t u : Nat) : OwnB (Rl (xt (xt ρ w.heap.size t) (w.heap.size + 1) u) s) w' A n c bs := goesOwnB.two h hb t u
theorem OwnB.role0 {A : Option Addr} {n c : Nat} {bs : B} {S : Nat → Prop} {w : World} (h : OwnB S w A n c bs) (t : Nat) : OwnB (Rl (xt (fun _ => 0) w.heap.size t) 0) w A n c bs := goes0 goesOwnB h t
/-- what the elements hold, behind a step that turns another role's blocks -/
theorem OwnS.deep {α : Type} {e : TypeId} {k : Nat} {Pf : (Nat → Prop) → World → α → List Value → Prop} (hG : ∀ x v, Goes fun S w => Pf S w x v) {ρ : Nat → Nat} {q s : Nat} {S : Nat → Prop} {w w' w2 : World} {A : Option Addr} {n c : Nat} {l : List α} (h : OwnS e k (Pf (Rl ρ s) w) S w2 A n c l) (hf : Fr (Rl ρ q) w w') (t : Nat) (hd : s ≠ q := by decide) {N : Nat} (hN : w.heap.size ≤ N := by exact Nat.le_refl _) : OwnS e k (Pf (Rl (xt ρ N t) s) w') S w2 A n c l :=
  h.imp fun x _ v hp => (hG x v).step hp hf hd t hN
theorem OwnS.deepx {α : Type} {e : TypeId} {k : Nat} {Pf : (Nat → Prop) → World → α → List Value → Prop} (hG : ∀ x v, Goes fun S w => Pf S w x v) {ρ ρ' : Nat → Nat} {q s : Nat} {S : Nat → Prop} {w w' w2 : World} {A : Option Addr} {n c : Nat} {l : List α} (h : OwnS e k (Pf (Rl ρ s) w) S w2 A n c l) (hf : Fr (Rl ρ q) w w') {t N : Nat} (hx : ρ' = xt ρ N t) (hd : s ≠ q := by decide) (hN : w.heap.size ≤ N := by exact Nat.le_refl _) : OwnS e k (Pf (Rl ρ' s) w') S w2 A n c l := hx ▸ h.deep hG hf t hd hN
theorem OwnS.deepS {α : Type} {e : TypeId} {k : Nat} {Pf : (Nat → Prop) → World → α → List Value → Prop} (hG : ∀ x v, Goes fun S w => Pf S w x v) {ρ : Nat → Nat} {q s : Nat} {S : Nat → Prop} {w w' w2 : World} {A : Option Addr} {n c : Nat} {l : List α} (h : OwnS e k (Pf (Rl ρ s) w) S w2 A n c l) (hf : Fr (Rl ρ q) w w') (hd : s ≠ q := by decide) : OwnS e k (Pf (Rl ρ s) w') S w2 A n c l :=
  h.imp fun x _ v hp => (hG x v).stay hp hf hd
theorem OwnS.deepA {α : Type} {e : TypeId} {k : Nat} {Pf : (Nat → Prop) → World → α → List Value → Prop} (hG : ∀ x v, Goes fun S w => Pf S w x v) {S' : Nat → Prop} {S : Nat → Prop} {w w' w2 : World} {A : Option Addr} {n c : Nat} {l : List α} (h : OwnS e k (Pf S' w) S w2 A n c l) (hb : Below w.heap.size w w') : OwnS e k (Pf S' w') S w2 A n c l :=
  h.imp fun x _ v hp => (hG x v).after hp hb
theorem OwnS.deep2 {α : Type} {e : TypeId} {k : Nat} {Pf : (Nat → Prop) → World → α → List Value → Prop} (hG : ∀ x v, Goes fun S w => Pf S w x v) {ρ : Nat → Nat} {s : Nat} {S : Nat → Prop} {w w' w2 : World} {A : Option Addr} {n c : Nat} {l : List α} (h : OwnS e k (Pf (Rl ρ s) w) S w2 A n c l) (hb : Below w.heap.size w w') (t u : Nat) : OwnS e k (Pf (Rl (xt (xt ρ w.heap.size t) (w.heap.size + 1) u) s) w') S w2 A n c l :=
  h.imp fun x _ v hp => (hG x v).two hp hb t u
theorem Arr.deep {α : Type} {k : Nat} {Pf : (Nat → Prop) → World → α → List Value → Prop} (hG : ∀ x v, Goes fun S w => Pf S w x v) {ρ : Nat → Nat} {q s : Nat} {S : Nat → Prop} {w w' w2 : World} {A : Option Addr} {n c : Nat} {l : List α} (h : Arr k (Pf (Rl ρ s) w) S w2 A n c l) (hf : Fr (Rl ρ q) w w') (t : Nat) (hd : s ≠ q := by decide) {N : Nat} (hN : w.heap.size ≤ N := by exact Nat.le_refl _) : Arr k (Pf (Rl (xt ρ N t) s) w') S w2 A n c l :=
  h.imp fun x _ v hp => (hG x v).step hp hf hd t hN
end Go.Proofs.Sb

/- Words for boxes of many cells, read and written as a whole. No conditions. -/
namespace Go.Proofs.Sb
open Go.RowKit _root_.Sb

section
variable {P : Program} {ops : Array Oper} {rest : List Oper} {o : Oper} {a : Act} {w : World} {Q : Exit → Act → World → Prop}
/-- a struct built: its cells -/
theorem wpList_built (hg : o.guard = none) (t : TypeId) (parts : Array (Nat × Operand)) (ho : o.op = .build t parts) (cells : Array Value)
    (hf : P.built t (parts.map fun (i, x) => (i, a.eval x)).toList = some cells) (h : wpList P ops Q rest (a.put o.dst (.agg cells)) w) : wpList P ops Q (o :: rest) a w := by
  refine wpList_build hg t parts ho (by rw [hf]; rfl) ?_
  rw [hf]
  exact h
/-- a struct into the block that was made last -/
theorem wpList_store_new (hgd : o.guard = none) (ty : TypeId) (x y : Operand) (ho : o.op = .store ty x y) (W : World) (t : TypeId) (old cells : Array Value) (hw : w = W.alloc (.cells old t))
    {g : Nat} (hx : a.eval x = .pointer (some ⟨g, 0, none⟩)) (hgW : g = W.heap.size) (hy : a.eval y = .agg cells) (hi : (P.info? ty).map (·.size) = some cells.toList.length)
    (hold : old.toList.length = cells.toList.length) (h1 : cells.toList.all (·.oneCell') = true)
    (h : ∀ w', w' = W.alloc (.cells cells t) → wpList P ops Q rest (a.put o.dst undef) w') : wpList P ops Q (o :: rest) a w := by
  subst hw hgW
  refine wpList_store_row hgd ty x y ho W.heap.size cells hx hy t old (heap_alloc_last W _) (by simpa using hi) (by simpa using hold) (by rw [← Array.all_toList]; exact h1) ?_
  rw [World.setRow_alloc_new]
  exact h _ rfl
/-- the same: the world behind it has a name -/
theorem wpList_store_newB (hgd : o.guard = none) (ty : TypeId) (x y : Operand) (ho : o.op = .store ty x y) (W : World) (t : TypeId) (old cells : Array Value) (hw : w = W.alloc (.cells old t))
    {g : Nat} (hx : a.eval x = .pointer (some ⟨g, 0, none⟩)) (hgW : g = W.heap.size) (hy : a.eval y = .agg cells) (hi : (P.info? ty).map (·.size) = some cells.toList.length)
    (hold : old.toList.length = cells.toList.length) (h1 : cells.toList.all (·.oneCell') = true)
    (h : ∀ w', Below W.heap.size W w' → w'.heap.size = W.heap.size + 1 → Bx (fun b => b = W.heap.size) w' W.heap.size cells.toList → wpList P ops Q rest (a.put o.dst undef) w') : wpList P ops Q (o :: rest) a w :=
  wpList_store_new hgd ty x y ho W t old cells hw hx hgW hy hi hold h1 fun w' e => h w' (by rw [e]; exact (Below.refl _ _).alloc (Nat.le_refl _) _) (by rw [e]; exact World.size_alloc _ _) (by rw [e]; exact Bx.alloc W cells t (S := fun b => b = W.heap.size) rfl rfl)
theorem Bx.range {S : Nat → Prop} {w : World} {X : Nat} {vs : List Value} (h : Bx S w X vs) : w.rangeAt X 0 vs := fun j v e => by
  rw [Nat.zero_add]; exact h.c j v e
theorem Bx.range_at {S : Nat → Prop} {w : World} {X : Nat} {vs : List Value} (h : Bx S w X vs) {o : Nat} {us : List Value} (hu : (vs.drop o).take us.length = us) : w.rangeAt X o us := fun j v e => by
  refine h.c (o + j) v ?_
  have hj : j < us.length := (List.getElem?_eq_some_iff.1 e).1
  rw [← hu, List.getElem?_take, if_pos hj, List.getElem?_drop] at e
  exact e
theorem Bx.there {S : Nat → Prop} {w : World} {X : Nat} {vs : List Value} (h : Bx S w X vs) {o n : Nat} (hn : o + n ≤ vs.length) : w.there X o n := fun j hj => by
  refine ⟨?_, h.fr _⟩
  rw [h.c (o + j) _ (List.getElem?_eq_getElem (by omega))]
  rfl
theorem growCells (X : Nat) : ∀ (us : List Value) (o : Nat) (w : World), w.grownBy (w.setCells X o us) (some X) := by
  intro us
  induction us with
  | nil => intro o w; exact grow_of_below (row := some X) (Below.refl _ _)
  | cons u us ih => intro o w; exact grow_seq (grow_setCell w X o u) (ih (o + 1) _) fun j e => .inr e
theorem setCells_size (X : Nat) : ∀ (us : List Value) (o : Nat) (w : World), (w.setCells X o us).heap.size = w.heap.size := by
  intro us
  induction us with
  | nil => intro o w; rfl
  | cons u us ih => intro o w; rw [World.setCells, ih]; simp
/-- cells into a box -/
theorem Bx.puts {S : Nat → Prop} {w : World} {X : Nat} {vs : List Value} (h : Bx S w X vs) (o : Nat) (us : List Value) (hn : o + us.length ≤ vs.length) : Bx S (w.setCells X o us) X (vs.take o ++ us ++ vs.drop (o + us.length)) := by
  refine ⟨h.role, by rw [setCells_size]; exact h.lt, fun i v e => ?_, fun i => by rw [World.frozen?_setCells]; exact h.fr i⟩
  rcases Nat.lt_or_ge i o with h1 | h1
  · have hq : vs[i]? = some v := by
      rw [List.append_assoc, List.getElem?_append_left (by rw [List.length_take]; omega), List.getElem?_take, if_pos h1] at e
      exact e
    have := World.rangeAt_setCells_apart (w := w) (b' := X) (o' := i) (cs := [v]) (fun j x ej => by
      cases j with
      | zero => injection ej with ej; subst ej; exact h.c i v hq
      | succ j => cases ej) X o us (.inr (.inl (by show i + 1 ≤ o; omega))) 0 v rfl
    exact this
  · rcases Nat.lt_or_ge i (o + us.length) with h2 | h2
    · have hq : us[i - o]? = some v := by
        rw [List.getElem?_append_left (by simp only [List.length_append, List.length_take]; omega), List.getElem?_append_right (by rw [List.length_take]; omega), List.length_take] at e
        rw [← e]; congr 1; omega
      have := World.rangeAt_setCells_same w X o us (h.there hn) (i - o) v hq
      rw [show o + (i - o) = i by omega] at this
      exact this
    · have hq : vs[i]? = some v := by
        rw [List.getElem?_append_right (by simp only [List.length_append, List.length_take]; omega), List.getElem?_drop] at e
        simp only [List.length_append, List.length_take] at e
        rw [← e]; congr 1; omega
      have := World.rangeAt_setCells_apart (w := w) (b' := X) (o' := i) (cs := [v]) (fun j x ej => by
        cases j with
        | zero => injection ej with ej; subst ej; exact h.c i v hq
        | succ j => cases ej) X o us (.inr (.inr h2)) 0 v rfl
      exact this
/-- a box read as a whole -/
theorem wpList_loadB {S : Nat → Prop} {X : Nat} {vs : List Value} (hB : Bx S w X vs) (hgd : o.guard = none) (ty : TypeId) (x : Operand) (ho : o.op = .load ty x) (hx : a.eval x = .pointer (some ⟨X, 0, none⟩)) (d : TypeDesc)
    (hu : P.underlying ty = some d) (hd : d.isRow = true) (hi : (P.info? ty).map (·.size) = some vs.length)
    (h : wpList P ops Q rest (a.put o.dst (.agg vs.toArray)) w) : wpList P ops Q (o :: rest) a w := wpList_load_mid hgd ty x ho X 0 hx vs d hB.range hu hd hi h
/-- a box written as a whole: the world behind it has a name -/
theorem wpList_storeB {S : Nat → Prop} {X : Nat} {vs : List Value} (hB : Bx S w X vs) (hgd : o.guard = none) (ty : TypeId) (x y : Operand) (ho : o.op = .store ty x y) (i : Nat) (us : List Value) (hx : a.eval x = .pointer (some ⟨X, i, none⟩)) (hy : a.eval y = .agg us.toArray)
    (hi : (P.info? ty).map (·.size) = some us.length) (hl : i + us.length ≤ vs.length) (h1 : us.all (·.oneCell') = true)
    (h : ∀ w', Bx S w' X (vs.take i ++ us ++ vs.drop (i + us.length)) → w.grownBy w' (some X) → wpList P ops Q rest (a.put o.dst undef) w') : wpList P ops Q (o :: rest) a w := by
  refine wpList_store_mid hgd ty x y ho X i us.toArray hx hy (by simpa using hB.there hl) (by simpa using hi) (by rw [← Array.all_toList]; exact h1) ?_
  exact h _ (hB.puts i us hl) (growCells X us i w)
/-- the same in a region that draws its order -/
theorem step_storeB {K : Act → World → Prop} {E : Prop} {S : Nat → Prop} {X : Nat} {vs : List Value} (hB : Bx S w X vs) (hgd : o.guard = none) (ty : TypeId) (x y : Operand) (ho : o.op = .store ty x y) (i : Nat) (us : List Value) (hx : a.eval x = .pointer (some ⟨X, i, none⟩)) (hy : a.eval y = .agg us.toArray)
    (hi : (P.info? ty).map (·.size) = some us.length) (hl : i + us.length ≤ vs.length) (h1 : us.all (·.oneCell') = true)
    (h : ∀ w', Bx S w' X (vs.take i ++ us ++ vs.drop (i + us.length)) → w.grownBy w' (some X) → K (a.put o.dst undef) w') : if Region.wanted o (yielded ops a.tmps) = true then Oper.wp P o a w K Q else E := by
  have hw : Region.wanted o (yielded ops a.tmps) = true := by simp [Region.wanted, hgd]
  rw [if_pos hw]
  refine wp_store_mid ty x y ho X i us.toArray hx hy (by simpa using hB.there hl) (by simpa using hi) (by rw [← Array.all_toList]; exact h1) ?_
  exact h _ (hB.puts i us hl) (growCells X us i w)
/-- a function whose first result lies in a box, its second in a slot -/
theorem results_box {S : Nat → Prop} {fn : Func} {p u : Tmp} {ty : TypeId} (h : fn.results = #[.cell p ty, .tmp u]) {X : Nat} {vs : List Value} (hB : Bx S w X vs) {tmps : Array Value} (hp : tmps.getD p undef = .pointer (some ⟨X, 0, none⟩)) {x : Value} (hx : tmps.getD u undef = x) (d : TypeDesc)
    (hu : P.underlying ty = some d) (hd : d.isRow = true) (hi : (P.info? ty).map (·.size) = some vs.length) : (results fn tmps).run P w = .ok (.tuple #[.agg vs.toArray, x]) w := by
  have h1 := run_loadVar_mid (P := P) w X 0 ty vs d hB.range hu hd hi
  rw [results_cell_tmp h, hp, hx]
  simp only [asAddr, Sem.run_pure, Result.andThen_ok, h1]
theorem below_of_grown {w w' : World} {X : Nat} (h : w.grownBy w' (some X)) (hX : w.heap.size ≤ X) : Below w.heap.size w w' := ⟨h.os, h.tape, h.output, h.size, fun b hb => h.block b hb (fun e => by injection e with e; omega)⟩
end
end Go.Proofs.Sb

/- A region that draws its order, walked in the order of its text. No conditions. -/
namespace Go.Proofs.Sb
open Go.RowKit _root_.Sb

/-! A region that draws its order, walked in the order of the text: what was there at the world W stays as it was. -/
/-- what was there in W is in w as it was -/
def Aft (W w : World) : Prop := Below W.heap.size W w
theorem Aft.refl (W : World) : Aft W W := Below.refl _ _
theorem wpAnyH_imp {P : Program} {md : Region.Mode} {ops : Array Oper} {Q : Exit → Act → World → Prop} {S S' : World → Prop} (hS : ∀ w, S' w → S w) :
    ∀ (fuel : Nat) (listed : Array Bool) (a : Act) (w : World), wpAnyH P md ops Q S' fuel listed a w → wpAnyH P md ops Q S fuel listed a w
  | 0, _, _, _, h => h
  | fuel + 1, _, _, _, h => ⟨h.1, fun i hi => wpOp_mono (fun a' w' h' => ⟨hS _ h'.1, wpAnyH_imp hS fuel _ a' w' h'.2⟩) (h.2 i hi)⟩
/-- number i of a list, laid open by reduction -/
def nth : List Oper → Nat → Option Oper
  | [], _ => none
  | o :: _, 0 => some o
  | _ :: l, n + 1 => nth l n
theorem nth_get : ∀ (l : List Oper) (i : Nat), l[i]? = nth l i
  | [], i => by simp [nth]
  | _ :: _, 0 => rfl
  | _ :: l, n + 1 => by simpa [nth] using nth_get l n
theorem nth_ops {l : List Oper} {i : Nat} {o : Oper} (h : nth l i = some o) : l.toArray[i]? = some o := by simpa [nth_get] using h
theorem reg_start {P : Program} {ops : Array Oper} {Q : Exit → Act → World → Prop} {id : Nat} {a : Act} {w : World} (hm : P.follows .mixedOrders = true)
    (h : wpAnyH P .any ops Q (Aft w.drew) ops.size (Array.replicate ops.size false) a w.drew) : (Code.region id ops true).wp P Q a w :=
  wp_region_held hm h
theorem reg_call {P : Program} {md : Region.Mode} {l : List Oper} {Q : Exit → Act → World → Prop} {W : World} {fuel : Nat} {listed : Array Bool} {a : Act} (i : Nat) {o : Oper}
    (hr : Region.ready md l.toArray listed = [i]) (ho : nth l i = some o)
    (h : ∀ K : Act → World → Prop, Shut (∀ a w', Aft W w' → wpAnyH P md l.toArray Q (Aft w') fuel (listed.setIfInBounds i true) a w' → K a w') → if Region.wanted o (yielded l.toArray a.tmps) = true then Oper.wp P o a W K Q else K (a.put o.dst undef) W) :
    wpAnyH P md l.toArray Q (Aft W) (fuel + 1) listed a W := by
  refine wpAnyH_all hr (by simp) fun j hj => ?_
  obtain rfl : j = i := by simpa using hj
  exact wpOp_step (nth_ops ho) fun K hK => h K fun a w' hw' h' => hK a w' ⟨hw', wpAnyH_imp (fun w h => seqB hw' h) _ _ _ _ h'⟩
theorem reg_two {P : Program} {md : Region.Mode} {l : List Oper} {Q : Exit → Act → World → Prop} {W : World} {fuel : Nat} {listed : Array Bool} {a : Act} (i j : Nat) {o p : Oper}
    (hr : Region.ready md l.toArray listed = [i, j]) (ho : nth l i = some o) (hp : nth l j = some p)
    (h : ∀ K : Act → World → Prop, Shut (∀ a w', Aft W w' → wpAnyH P md l.toArray Q (Aft w') fuel (listed.setIfInBounds i true) a w' → K a w') → if Region.wanted o (yielded l.toArray a.tmps) = true then Oper.wp P o a W K Q else K (a.put o.dst undef) W)
    (k : ∀ K : Act → World → Prop, Shut (∀ a w', Aft W w' → wpAnyH P md l.toArray Q (Aft w') fuel (listed.setIfInBounds j true) a w' → K a w') → if Region.wanted p (yielded l.toArray a.tmps) = true then Oper.wp P p a W K Q else K (a.put p.dst undef) W) :
    wpAnyH P md l.toArray Q (Aft W) (fuel + 1) listed a W := by
  refine wpAnyH_all hr (by simp) fun x hx => ?_
  simp only [List.mem_cons, List.not_mem_nil, or_false] at hx
  rcases hx with rfl | rfl
  · exact wpOp_step (nth_ops ho) fun K hK => h K fun a w' hw' h' => hK a w' ⟨hw', wpAnyH_imp (fun w h => seqB hw' h) _ _ _ _ h'⟩
  · exact wpOp_step (nth_ops hp) fun K hK => k K fun a w' hw' h' => hK a w' ⟨hw', wpAnyH_imp (fun w h => seqB hw' h) _ _ _ _ h'⟩
theorem reg_take {P : Program} {md : Region.Mode} {l : List Oper} {Q : Exit → Act → World → Prop} {W : World} {fuel : Nat} {listed : Array Bool} {a : Act} (i : Nat) {oi : Oper} {v : Value} (hi : nth l i = some oi)
    (hs : Region.noSelect l.toArray = true) (hf : Region.free md l.toArray listed i = true) (hr : (Region.ready md l.toArray listed).contains i = true)
    (hQ : ∀ c a w, Q (.panic c) (a.put oi.dst v) w → Q (.panic c) a w) (hw : Region.wanted oi (yielded l.toArray a.tmps) = true) (hy : ∀ w, Aft W w → (execOp a.eval oi).run P w = .ok (.value v) w)
    (h : wpAnyH P md l.toArray Q (Aft W) fuel (listed.setIfInBounds i true) (a.put oi.dst v) W) : wpAnyH P md l.toArray Q (Aft W) (fuel + 1) listed a W :=
  wpAnyH_take (nth_ops hi) hs hf hr hQ (.inl ⟨hw, hy⟩) (Aft.refl W) h
theorem reg_skip {P : Program} {md : Region.Mode} {l : List Oper} {Q : Exit → Act → World → Prop} {W : World} {fuel : Nat} {listed : Array Bool} {a : Act} (i : Nat) {oi : Oper} (hi : nth l i = some oi)
    (hs : Region.noSelect l.toArray = true) (hf : Region.free md l.toArray listed i = true) (hr : (Region.ready md l.toArray listed).contains i = true)
    (hQ : ∀ c a w, Q (.panic c) (a.put oi.dst undef) w → Q (.panic c) a w) (hw : Region.wanted oi (yielded l.toArray a.tmps) = false)
    (h : wpAnyH P md l.toArray Q (Aft W) fuel (listed.setIfInBounds i true) (a.put oi.dst undef) W) : wpAnyH P md l.toArray Q (Aft W) (fuel + 1) listed a W :=
  wpAnyH_take (nth_ops hi) hs hf hr hQ (.inr ⟨hw, rfl⟩) (Aft.refl W) h

/-! The same where one row of the call's own may grow within the region. -/
/-- what was there in W is in w as it was, but for the block row -/
def AftR (row : Option Nat) (W w : World) : Prop := W.grownBy w row
theorem AftR.refl (row : Option Nat) (W : World) : AftR row W W := World.grownBy.refl _ _
theorem AftR.of {row : Option Nat} {W w : World} (h : Below W.heap.size W w) : AftR row W w := ⟨h.os, h.tape, h.output, h.size, fun k hk _ => h.block k hk⟩
theorem AftR.seq {row : Option Nat} {a b c : World} (h : AftR row a b) (k : AftR row b c) : AftR row a c :=
  ⟨k.os.trans h.os, k.tape.trans h.tape, k.output.trans h.output, Nat.le_trans h.size k.size, fun i hi hr => (k.block i (Nat.lt_of_lt_of_le hi h.size) hr).trans (h.block i hi hr)⟩
theorem regr_start {P : Program} {ops : Array Oper} {Q : Exit → Act → World → Prop} {id : Nat} {a : Act} {w : World} (row : Option Nat) (hm : P.follows .mixedOrders = true)
    (h : wpAnyH P .any ops Q (AftR row w.drew) ops.size (Array.replicate ops.size false) a w.drew) : (Code.region id ops true).wp P Q a w :=
  wp_region_held hm h
theorem regr_call {P : Program} {md : Region.Mode} {l : List Oper} {Q : Exit → Act → World → Prop} {row : Option Nat} {W : World} {fuel : Nat} {listed : Array Bool} {a : Act} (i : Nat) {o : Oper}
    (hr : Region.ready md l.toArray listed = [i]) (ho : nth l i = some o)
    (h : ∀ K : Act → World → Prop, Shut (∀ a w', AftR row W w' → wpAnyH P md l.toArray Q (AftR row w') fuel (listed.setIfInBounds i true) a w' → K a w') → if Region.wanted o (yielded l.toArray a.tmps) = true then Oper.wp P o a W K Q else K (a.put o.dst undef) W) :
    wpAnyH P md l.toArray Q (AftR row W) (fuel + 1) listed a W := by
  refine wpAnyH_all hr (by simp) fun j hj => ?_
  obtain rfl : j = i := by simpa using hj
  exact wpOp_step (nth_ops ho) fun K hK => h K fun a w' hw' h' => hK a w' ⟨hw', wpAnyH_imp (fun w h => hw'.seq h) _ _ _ _ h'⟩
theorem regr_two {P : Program} {md : Region.Mode} {l : List Oper} {Q : Exit → Act → World → Prop} {row : Option Nat} {W : World} {fuel : Nat} {listed : Array Bool} {a : Act} (i j : Nat) {o p : Oper}
    (hr : Region.ready md l.toArray listed = [i, j]) (ho : nth l i = some o) (hp : nth l j = some p)
    (h : ∀ K : Act → World → Prop, Shut (∀ a w', AftR row W w' → wpAnyH P md l.toArray Q (AftR row w') fuel (listed.setIfInBounds i true) a w' → K a w') → if Region.wanted o (yielded l.toArray a.tmps) = true then Oper.wp P o a W K Q else K (a.put o.dst undef) W)
    (k : ∀ K : Act → World → Prop, Shut (∀ a w', AftR row W w' → wpAnyH P md l.toArray Q (AftR row w') fuel (listed.setIfInBounds j true) a w' → K a w') → if Region.wanted p (yielded l.toArray a.tmps) = true then Oper.wp P p a W K Q else K (a.put p.dst undef) W) :
    wpAnyH P md l.toArray Q (AftR row W) (fuel + 1) listed a W := by
  refine wpAnyH_all hr (by simp) fun x hx => ?_
  simp only [List.mem_cons, List.not_mem_nil, or_false] at hx
  rcases hx with rfl | rfl
  · exact wpOp_step (nth_ops ho) fun K hK => h K fun a w' hw' h' => hK a w' ⟨hw', wpAnyH_imp (fun w h => hw'.seq h) _ _ _ _ h'⟩
  · exact wpOp_step (nth_ops hp) fun K hK => k K fun a w' hw' h' => hK a w' ⟨hw', wpAnyH_imp (fun w h => hw'.seq h) _ _ _ _ h'⟩
theorem regr_take {P : Program} {md : Region.Mode} {l : List Oper} {Q : Exit → Act → World → Prop} {row : Option Nat} {W : World} {fuel : Nat} {listed : Array Bool} {a : Act} (i : Nat) {oi : Oper} {v : Value} (hi : nth l i = some oi)
    (hs : Region.noSelect l.toArray = true) (hf : Region.free md l.toArray listed i = true) (hr : (Region.ready md l.toArray listed).contains i = true)
    (hQ : ∀ c a w, Q (.panic c) (a.put oi.dst v) w → Q (.panic c) a w) (hw : Region.wanted oi (yielded l.toArray a.tmps) = true) (hy : ∀ w, AftR row W w → (execOp a.eval oi).run P w = .ok (.value v) w)
    (h : wpAnyH P md l.toArray Q (AftR row W) fuel (listed.setIfInBounds i true) (a.put oi.dst v) W) : wpAnyH P md l.toArray Q (AftR row W) (fuel + 1) listed a W :=
  wpAnyH_take (nth_ops hi) hs hf hr hQ (.inl ⟨hw, hy⟩) (AftR.refl row W) h
theorem regr_skip {P : Program} {md : Region.Mode} {l : List Oper} {Q : Exit → Act → World → Prop} {row : Option Nat} {W : World} {fuel : Nat} {listed : Array Bool} {a : Act} (i : Nat) {oi : Oper} (hi : nth l i = some oi)
    (hs : Region.noSelect l.toArray = true) (hf : Region.free md l.toArray listed i = true) (hr : (Region.ready md l.toArray listed).contains i = true)
    (hQ : ∀ c a w, Q (.panic c) (a.put oi.dst undef) w → Q (.panic c) a w) (hw : Region.wanted oi (yielded l.toArray a.tmps) = false)
    (h : wpAnyH P md l.toArray Q (AftR row W) fuel (listed.setIfInBounds i true) (a.put oi.dst undef) W) : wpAnyH P md l.toArray Q (AftR row W) (fuel + 1) listed a W :=
  wpAnyH_take (nth_ops hi) hs hf hr hQ (.inr ⟨hw, rfl⟩) (AftR.refl row W) h
theorem below_undrew {N : Nat} {a w : World} (h : Below N a w) : Below N a.drew w := ⟨h.os, h.tape, h.output, h.size, h.block⟩
/-- a cell below, in a world behind -/
theorem AftR.cell {row : Option Nat} {W w : World} (h : AftR row W w) {b o : Nat} (hb : b < W.heap.size) (hr : some b ≠ row) : w.cell? ⟨b, o, none⟩ = W.cell? ⟨b, o, none⟩ := World.cell?_of_block (h.block b hb hr)
/-- what a cell holds, at each world behind -/
theorem AftR.each {row : Option Nat} {W : World} {b o : Nat} {v : Value} (hr : some b ≠ row) (h : W.cell? ⟨b, o, none⟩ = some v) : ∀ w, AftR row W w → w.cell? ⟨b, o, none⟩ = some v :=
  fun w hw => (hw.cell (World.block_lt_of_cell? W ⟨b, o, none⟩ h) hr).trans h
theorem Aft.each {W : World} {b o : Nat} {v : Value} (h : W.cell? ⟨b, o, none⟩ = some v) : ∀ w, Aft W w → w.cell? ⟨b, o, none⟩ = some v :=
  fun w hw => (Below.cell hw (p := ⟨b, o, none⟩) (World.block_lt_of_cell? W ⟨b, o, none⟩ h)).trans h
end Go.Proofs.Sb

/- A region that draws its order, walked where its loads and its changes stand in either order. No conditions. -/
namespace Go.Proofs.Sb
open Go.RowKit _root_.Sb

theorem regt_start {P : Program} {ops : Array Oper} {Q : Exit → Act → World → Prop} {id : Nat} {a : Act} {w : World} (hm : P.follows .mixedOrders = true)
    (h : wpAnyH P .any ops Q (fun _ => True) ops.size (Array.replicate ops.size false) a w.drew) : (Code.region id ops true).wp P Q a w :=
  wp_region_held hm h
theorem regt_call {P : Program} {md : Region.Mode} {l : List Oper} {Q : Exit → Act → World → Prop} {W : World} {fuel : Nat} {listed : Array Bool} {a : Act} (i : Nat) {o : Oper}
    (hr : Region.ready md l.toArray listed = [i]) (ho : nth l i = some o)
    (h : ∀ K : Act → World → Prop, Shut (∀ a w', True → wpAnyH P md l.toArray Q (fun _ => True) fuel (listed.setIfInBounds i true) a w' → K a w') → if Region.wanted o (yielded l.toArray a.tmps) = true then Oper.wp P o a W K Q else K (a.put o.dst undef) W) :
    wpAnyH P md l.toArray Q (fun _ => True) (fuel + 1) listed a W := by
  refine wpAnyH_all hr (by simp) fun j hj => ?_
  obtain rfl : j = i := by simpa using hj
  exact wpOp_step (nth_ops ho) fun K hK => h K fun a w' _ h' => hK a w' ⟨trivial, h'⟩
theorem regt_two {P : Program} {md : Region.Mode} {l : List Oper} {Q : Exit → Act → World → Prop} {W : World} {fuel : Nat} {listed : Array Bool} {a : Act} (i j : Nat) {o p : Oper}
    (hr : Region.ready md l.toArray listed = [i, j]) (ho : nth l i = some o) (hp : nth l j = some p)
    (h : ∀ K : Act → World → Prop, Shut (∀ a w', True → wpAnyH P md l.toArray Q (fun _ => True) fuel (listed.setIfInBounds i true) a w' → K a w') → if Region.wanted o (yielded l.toArray a.tmps) = true then Oper.wp P o a W K Q else K (a.put o.dst undef) W)
    (k : ∀ K : Act → World → Prop, Shut (∀ a w', True → wpAnyH P md l.toArray Q (fun _ => True) fuel (listed.setIfInBounds j true) a w' → K a w') → if Region.wanted p (yielded l.toArray a.tmps) = true then Oper.wp P p a W K Q else K (a.put p.dst undef) W) :
    wpAnyH P md l.toArray Q (fun _ => True) (fuel + 1) listed a W := by
  refine wpAnyH_all hr (by simp) fun x hx => ?_
  simp only [List.mem_cons, List.not_mem_nil, or_false] at hx
  rcases hx with rfl | rfl
  · exact wpOp_step (nth_ops ho) fun K hK => h K fun a w' _ h' => hK a w' ⟨trivial, h'⟩
  · exact wpOp_step (nth_ops hp) fun K hK => k K fun a w' _ h' => hK a w' ⟨trivial, h'⟩
theorem regt_take {P : Program} {md : Region.Mode} {l : List Oper} {Q : Exit → Act → World → Prop} {W : World} {fuel : Nat} {listed : Array Bool} {a : Act} (i : Nat) {oi : Oper} {v : Value} (hi : nth l i = some oi)
    (hs : Region.noSelect l.toArray = true) (hf : Region.free md l.toArray listed i = true) (hr : (Region.ready md l.toArray listed).contains i = true)
    (hQ : ∀ c a w, Q (.panic c) (a.put oi.dst v) w → Q (.panic c) a w) (hw : Region.wanted oi (yielded l.toArray a.tmps) = true) (hy : ∀ w, True → (execOp a.eval oi).run P w = .ok (.value v) w)
    (h : wpAnyH P md l.toArray Q (fun _ => True) fuel (listed.setIfInBounds i true) (a.put oi.dst v) W) : wpAnyH P md l.toArray Q (fun _ => True) (fuel + 1) listed a W :=
  wpAnyH_take (nth_ops hi) hs hf hr hQ (.inl ⟨hw, hy⟩) trivial h
theorem regt_skip {P : Program} {md : Region.Mode} {l : List Oper} {Q : Exit → Act → World → Prop} {W : World} {fuel : Nat} {listed : Array Bool} {a : Act} (i : Nat) {oi : Oper} (hi : nth l i = some oi)
    (hs : Region.noSelect l.toArray = true) (hf : Region.free md l.toArray listed i = true) (hr : (Region.ready md l.toArray listed).contains i = true)
    (hQ : ∀ c a w, Q (.panic c) (a.put oi.dst undef) w → Q (.panic c) a w) (hw : Region.wanted oi (yielded l.toArray a.tmps) = false)
    (h : wpAnyH P md l.toArray Q (fun _ => True) fuel (listed.setIfInBounds i true) (a.put oi.dst undef) W) : wpAnyH P md l.toArray Q (fun _ => True) (fuel + 1) listed a W :=
  wpAnyH_take (nth_ops hi) hs hf hr hQ (.inr ⟨hw, rfl⟩) trivial h

end Go.Proofs.Sb

/- A region that draws its order and writes into blocks of a set T: what lies in no such block stays as it was; a box loaded within it. No conditions. -/
namespace Go.Proofs.Sb
open Go.RowKit _root_.Sb

theorem regf_start {P : Program} {ops : Array Oper} {Q : Exit → Act → World → Prop} {id : Nat} {a : Act} {w : World} (T : Nat → Prop) (hm : P.follows .mixedOrders = true)
    (h : wpAnyH P .any ops Q (Fr T w.drew) ops.size (Array.replicate ops.size false) a w.drew) : (Code.region id ops true).wp P Q a w :=
  wp_region_held hm h
theorem regf_call {P : Program} {md : Region.Mode} {l : List Oper} {Q : Exit → Act → World → Prop} {T : Nat → Prop} {W : World} {fuel : Nat} {listed : Array Bool} {a : Act} (i : Nat) {o : Oper}
    (hr : Region.ready md l.toArray listed = [i]) (ho : nth l i = some o)
    (h : ∀ K : Act → World → Prop, Shut (∀ a w', Fr T W w' → wpAnyH P md l.toArray Q (Fr T w') fuel (listed.setIfInBounds i true) a w' → K a w') → if Region.wanted o (yielded l.toArray a.tmps) = true then Oper.wp P o a W K Q else K (a.put o.dst undef) W) :
    wpAnyH P md l.toArray Q (Fr T W) (fuel + 1) listed a W := by
  refine wpAnyH_all hr (by simp) fun j hj => ?_
  obtain rfl : j = i := by simpa using hj
  exact wpOp_step (nth_ops ho) fun K hK => h K fun a w' hw' h' => hK a w' ⟨hw', wpAnyH_imp (fun w h => hw'.trans h) _ _ _ _ h'⟩
theorem regf_two {P : Program} {md : Region.Mode} {l : List Oper} {Q : Exit → Act → World → Prop} {T : Nat → Prop} {W : World} {fuel : Nat} {listed : Array Bool} {a : Act} (i j : Nat) {o p : Oper}
    (hr : Region.ready md l.toArray listed = [i, j]) (ho : nth l i = some o) (hp : nth l j = some p)
    (h : ∀ K : Act → World → Prop, Shut (∀ a w', Fr T W w' → wpAnyH P md l.toArray Q (Fr T w') fuel (listed.setIfInBounds i true) a w' → K a w') → if Region.wanted o (yielded l.toArray a.tmps) = true then Oper.wp P o a W K Q else K (a.put o.dst undef) W)
    (k : ∀ K : Act → World → Prop, Shut (∀ a w', Fr T W w' → wpAnyH P md l.toArray Q (Fr T w') fuel (listed.setIfInBounds j true) a w' → K a w') → if Region.wanted p (yielded l.toArray a.tmps) = true then Oper.wp P p a W K Q else K (a.put p.dst undef) W) :
    wpAnyH P md l.toArray Q (Fr T W) (fuel + 1) listed a W := by
  refine wpAnyH_all hr (by simp) fun x hx => ?_
  simp only [List.mem_cons, List.not_mem_nil, or_false] at hx
  rcases hx with rfl | rfl
  · exact wpOp_step (nth_ops ho) fun K hK => h K fun a w' hw' h' => hK a w' ⟨hw', wpAnyH_imp (fun w h => hw'.trans h) _ _ _ _ h'⟩
  · exact wpOp_step (nth_ops hp) fun K hK => k K fun a w' hw' h' => hK a w' ⟨hw', wpAnyH_imp (fun w h => hw'.trans h) _ _ _ _ h'⟩
theorem regf_take {P : Program} {md : Region.Mode} {l : List Oper} {Q : Exit → Act → World → Prop} {T : Nat → Prop} {W : World} {fuel : Nat} {listed : Array Bool} {a : Act} (i : Nat) {oi : Oper} {v : Value} (hi : nth l i = some oi)
    (hs : Region.noSelect l.toArray = true) (hf : Region.free md l.toArray listed i = true) (hr : (Region.ready md l.toArray listed).contains i = true)
    (hQ : ∀ c a w, Q (.panic c) (a.put oi.dst v) w → Q (.panic c) a w) (hw : Region.wanted oi (yielded l.toArray a.tmps) = true) (hy : ∀ w, Fr T W w → (execOp a.eval oi).run P w = .ok (.value v) w)
    (h : wpAnyH P md l.toArray Q (Fr T W) fuel (listed.setIfInBounds i true) (a.put oi.dst v) W) : wpAnyH P md l.toArray Q (Fr T W) (fuel + 1) listed a W :=
  wpAnyH_take (nth_ops hi) hs hf hr hQ (.inl ⟨hw, hy⟩) (Fr.refl T W) h
theorem regf_skip {P : Program} {md : Region.Mode} {l : List Oper} {Q : Exit → Act → World → Prop} {T : Nat → Prop} {W : World} {fuel : Nat} {listed : Array Bool} {a : Act} (i : Nat) {oi : Oper} (hi : nth l i = some oi)
    (hs : Region.noSelect l.toArray = true) (hf : Region.free md l.toArray listed i = true) (hr : (Region.ready md l.toArray listed).contains i = true)
    (hQ : ∀ c a w, Q (.panic c) (a.put oi.dst undef) w → Q (.panic c) a w) (hw : Region.wanted oi (yielded l.toArray a.tmps) = false)
    (h : wpAnyH P md l.toArray Q (Fr T W) fuel (listed.setIfInBounds i true) (a.put oi.dst undef) W) : wpAnyH P md l.toArray Q (Fr T W) (fuel + 1) listed a W :=
  wpAnyH_take (nth_ops hi) hs hf hr hQ (.inr ⟨hw, rfl⟩) (Fr.refl T W) h
/-- what a cell holds, at each world behind -/
theorem Fr.each {T : Nat → Prop} {W : World} {b o : Nat} {v : Value} (hb : ¬ T b) (h : W.cell? ⟨b, o, none⟩ = some v) : ∀ w, Fr T W w → w.cell? ⟨b, o, none⟩ = some v :=
  fun w hw => hw.cell hb h
theorem regf_three {P : Program} {md : Region.Mode} {l : List Oper} {Q : Exit → Act → World → Prop} {T : Nat → Prop} {W : World} {fuel : Nat} {listed : Array Bool} {a : Act} (i j k : Nat) {o p q : Oper}
    (hr : Region.ready md l.toArray listed = [i, j, k]) (ho : nth l i = some o) (hp : nth l j = some p) (hq : nth l k = some q)
    (h1 : ∀ K : Act → World → Prop, Shut (∀ a w', Fr T W w' → wpAnyH P md l.toArray Q (Fr T w') fuel (listed.setIfInBounds i true) a w' → K a w') → if Region.wanted o (yielded l.toArray a.tmps) = true then Oper.wp P o a W K Q else K (a.put o.dst undef) W)
    (h2 : ∀ K : Act → World → Prop, Shut (∀ a w', Fr T W w' → wpAnyH P md l.toArray Q (Fr T w') fuel (listed.setIfInBounds j true) a w' → K a w') → if Region.wanted p (yielded l.toArray a.tmps) = true then Oper.wp P p a W K Q else K (a.put p.dst undef) W)
    (h3 : ∀ K : Act → World → Prop, Shut (∀ a w', Fr T W w' → wpAnyH P md l.toArray Q (Fr T w') fuel (listed.setIfInBounds k true) a w' → K a w') → if Region.wanted q (yielded l.toArray a.tmps) = true then Oper.wp P q a W K Q else K (a.put q.dst undef) W) :
    wpAnyH P md l.toArray Q (Fr T W) (fuel + 1) listed a W := by
  refine wpAnyH_all hr (by simp) fun x hx => ?_
  simp only [List.mem_cons, List.not_mem_nil, or_false] at hx
  rcases hx with rfl | rfl | rfl
  · exact wpOp_step (nth_ops ho) fun K hK => h1 K fun a w' hw' h' => hK a w' ⟨hw', wpAnyH_imp (fun w h => hw'.trans h) _ _ _ _ h'⟩
  · exact wpOp_step (nth_ops hp) fun K hK => h2 K fun a w' hw' h' => hK a w' ⟨hw', wpAnyH_imp (fun w h => hw'.trans h) _ _ _ _ h'⟩
  · exact wpOp_step (nth_ops hq) fun K hK => h3 K fun a w' hw' h' => hK a w' ⟨hw', wpAnyH_imp (fun w h => hw'.trans h) _ _ _ _ h'⟩
/-- a new block of cells: the world behind it has a name -/
theorem Fr.of_one {T : Nat → Prop} {w w' : World} {X : Nat} (h : w.grownBy w' (some X)) (hX : T X) : Fr T w w' := Fr.of_grown h fun b e => by injection e with e; subst e; exact hX
theorem Below.grown1 {N : Nat} {a b c : World} {X : Nat} (h : Below N a b) (hg : b.grownBy c (some X)) (hN : N ≤ b.heap.size) (hX : N ≤ X) : Below N a c := Below.grown h hg hN fun k e => by injection e with e; subst e; exact hX
theorem step_loadB {P : Program} {ops : Array Oper} {o : Oper} {a : Act} {w : World} {Q : Exit → Act → World → Prop} {K : Act → World → Prop} {E : Prop} {S : Nat → Prop} {X : Nat} {vs : List Value} (hB : Bx S w X vs) (hgd : o.guard = none) (ty : TypeId) (x : Operand) (ho : o.op = .load ty x) (hx : a.eval x = .pointer (some ⟨X, 0, none⟩)) (d : TypeDesc)
    (hu : P.underlying ty = some d) (hd : d.isRow = true) (hi : (P.info? ty).map (·.size) = some vs.length) (h : K (a.put o.dst (.agg vs.toArray)) w) : if Region.wanted o (yielded ops a.tmps) = true then Oper.wp P o a w K Q else E := by
  have hw : Region.wanted o (yielded ops a.tmps) = true := by simp [Region.wanted, hgd]
  rw [if_pos hw]
  exact wp_load_mid ty x ho X 0 hx vs d hB.range hu hd hi h
end Go.Proofs.Sb
