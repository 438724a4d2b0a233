/- Plain mathematics of rows' columns, in states. No conditions. -/
import Derived.Test.YtenhgcgdhaegaaaDoorTab
import Derived.Test.YtenhgcgdhaegaaaDoorRoleo
set_option linter.unusedVariables false
set_option linter.unusedSimpArgs false
namespace Sb
/-- in an error nothing more is read -/
theorem PrgG.stay {α : Type} {g : B → Res α} {m k : Nat} {s3 : Wr} {l : List α} {e : Int} (h : PrgG g m s3 k l (.error e)) (k' : Nat) (l' : List α) : PrgG g m s3 k' l' (.error e) :=
  ⟨fun r h => (by cases h), h.2⟩
theorem PrgG.any {α : Type} {g : B → Res α} {m k : Nat} {s3 st : Wr} {l : List α} (h : PrgG g m s3 k l st) (hk : k < m) (x : α) (hx : Tie g st x) : PrgG g m s3 (k + 1) (l ++ [x]) (gR g st) := by
  cases st with
  | ok rest => exact h.step hk x hx
  | error e => exact h.stay _ _
theorem s2_R (s : Wr) : gR (getS 2) s = gR (getN 2) s ∧ gV 0 (getS 2) s = sgn 2 (gV 0 (getN 2) s) := by
  cases s with
  | error e => exact ⟨rfl, (by decide : (0 : Int) = sgn 2 0)⟩
  | ok cur =>
    cases h : getN 2 cur with
    | error e =>
      have e1 : getS 2 cur = .error e := by rw [getS_of h]; rfl
      exact ⟨by rw [gR_err h, gR_err e1], by rw [gV_ok h, gV_ok e1]; exact (by decide : (0 : Int) = sgn 2 0)⟩
    | ok p =>
      obtain ⟨x, r⟩ := p
      have e1 : getS 2 cur = .ok (sgn 2 x, r) := by rw [getS_of h]; rfl
      exact ⟨by rw [gR_ok h, gR_ok e1], by rw [gV_ok h, gV_ok e1]; rfl⟩
theorem sgn2_mod {x : Nat} (h : x < 65536) : sgn 2 x % 65536 = (x : Int) := by
  unfold sgn
  simp only [Nat.reducePow, Nat.reduceDiv]
  split <;> omega
theorem n2_lt (s : Wr) : gV 0 (getN 2) s < 65536 := by have := gV_lt (n := 2) s; simpa using this
/-- places of keys, in a state -/
theorem places_R (n : Nat) (s : Wr) {l : List Nat} (hl : Tie (getsM (getN 2) (gV 0 getCnt s)) (gR getCnt s) l) :
    gR (placesR n) s = mustR (!(l.any fun k => decide (n ≤ k))) 11 (gR (getsM (getN 2) (gV 0 getCnt s)) (gR getCnt s)) ∧ Tie (placesR n) s l := by
  have hall : ∀ l : List Nat, (l.all fun k => decide (k < n)) = !(l.any fun k => decide (n ≤ k)) := by
    intro l
    rw [List.not_any_eq_all_not]
    congr 1
    funext k
    by_cases h : k < n
    · rw [decide_eq_true h, decide_eq_false (by omega)]; rfl
    · rw [decide_eq_false h, decide_eq_true (by omega)]; rfl
  have e1 : gR (placesR n) s = gR (fun b => bindR (getsM (getN 2) (gV 0 getCnt s) b) fun l b => if (l.all fun k => decide (k < n)) = false then .error 11 else .ok (l, b)) (gR getCnt s) := gR_bind 0 getCnt _ s
  constructor
  · rw [e1, gR_bindT hl, gR_must, hall]
    cases hq : mustR (!(l.any fun k => decide (n ≤ k))) 11 (gR (getsM (getN 2) (gV 0 getCnt s)) (gR getCnt s)) <;> rfl
  · refine tie_bind (d := 0) (g := getCnt) (tie_bindT hl (tie_must ?_))
    intro cur y rest _ h2
    injection h2 with h2; injection h2 with h2
/-- a column, in a state -/
theorem col_R (g : Bool) (p : B × B) (s : Wr) {q : B × B} (hq : Tie (optR (!g) p nmsR) s q) :
    gR (colR g p) s = gR (getO 20) (gR getText (gR (optR (!g) p nmsR) s)) ∧
    Tie (colR g p) s ⟨q.1, q.2, gV [] getText (gR (optR (!g) p nmsR) s), gV Opt.none (getO 20) (gR getText (gR (optR (!g) p nmsR) s))⟩ := by
  constructor
  · unfold colR
    rw [gR_bindT hq, gR_bind [] getText, gR_bind Opt.none (getO 20)]
    cases gR (getO 20) (gR getText (gR (optR (!g) p nmsR) s)) <;> rfl
  · refine tie_bindT hq (tie_bind (d := []) (tie_bind (d := Opt.none) ?_))
    intro cur y rest _ h2
    injection h2 with h2; injection h2 with h2
end Sb

/- What holds along the walk of rows.reader's columns: the boxes, the rows, what they read as. No conditions. -/
namespace Go.Proofs.Sb
open Go.RowKit _root_.Sb
theorem Bs.grown {ρ : Nat → Nat} {X : Nat} {W w : World} (h : Bs ρ (fun b => b = X) W w) : W.grownBy w (some X) := ⟨h.fr.os, h.fr.tape, h.fr.output, h.fr.size, fun b hb hn => h.fr.block b hb fun e => hn (by rw [e])⟩
/-- old blocks but the reader's have role 0: what the reader reads -/
theorem Bs.zero {ρ : Nat → Nat} {T : Nat → Prop} {W w : World} (h : Bs ρ T W w) {r : Nat} (hr : (0 : Nat) ≠ r) {b : Nat} (hb : b < W.heap.size) (hT : ¬ T b) : ¬ ρ b = r := fun e => hr ((h.role b hb hT).symm.trans e)
theorem Bs.ge' {ρ : Nat → Nat} {X r : Nat} {W w : World} (h : Bs ρ (fun b => b = X) W w) (hX : ρ X = 9) {b : Nat} (hb : ρ b = r) (h0 : r ≠ 0) (h9 : r ≠ 9) : W.heap.size ≤ b := by
  rcases Nat.lt_or_ge b W.heap.size with h1 | h1
  · by_cases e : b = X
    · subst e; exact absurd (hb.symm.trans hX) h9
    · exact absurd (hb.symm.trans (h.role b h1 e)) h0
  · exact h1
/-- behind a step that turns blocks of a set -/
theorem Goes.stepT {F : (Nat → Prop) → World → Prop} (G : Goes F) {ρ : Nat → Nat} {s : Nat} {T : Nat → Prop} {w w' : World} (h : F (Rl ρ s) w) (hf : Fr T w w') (hd : ∀ b, ρ b = s → ¬ T b) (t : Nat) {N : Nat} (hN : w.heap.size ≤ N := by exact Nat.le_refl _) : F (Rl (xt ρ N t) s) w' :=
  G.mono (G.keep (G.mono (S' := fun b => Rl ρ s b ∧ b < w.heap.size) h fun _ h1 h2 => ⟨h1, h2⟩) hf.size fun b hs hb => hf.block b hb (hd b hs.1)) fun b hs _ => by show xt ρ N t b = s; rw [xt_lt (by have := hs.2; omega)]; exact hs.1
theorem Bx.one {S : Nat → Prop} {w : World} {C : Nat} {vs : List Value} (h : Bx S w C vs) : Bx (fun b => b = C) w C vs := ⟨rfl, h.lt, h.c, h.fr⟩
theorem Bx.stepT {ρ ρ' : Nat → Nat} {s t : Nat} {T : Nat → Prop} {w w' : World} {C : Nat} {vs : List Value} (h : Bx (Rl ρ s) w C vs) (hf : Fr T w w') (hd : ∀ b, ρ b = s → ¬ T b) (hx : ρ' = xt ρ w.heap.size t) : Bx (Rl ρ' s) w' C vs := hx ▸ goesBx.stepT h hf hd t
/-- a column in eight cells -/
def colP (M d : Nat) (S : Nat → Prop) (w : World) (x : Col) (c : List Value) : Prop := ∃ A n k A2 n2 k2, c = [.string (str x.space), .string (str x.table), .string (str x.name), .int .u16 (x.type.id : Int), .string (str x.type.space), .string (str x.type.name), .slice A n k, .slice A2 n2 k2] ∧
  x.space.length ≤ M ∧ x.table.length ≤ M ∧ x.name.length ≤ M ∧ OptR S w M d A n k A2 n2 k2 x.type
theorem goesCol {M d : Nat} (x : Col) (c : List Value) : Goes fun S w => colP M d S w x c :=
  ⟨fun ⟨A, n, k, A2, n2, k2, e, h1, h2, h3, h4⟩ hs hk => ⟨A, n, k, A2, n2, k2, e, h1, h2, h3, h4.keep hs hk⟩, fun ⟨A, n, k, A2, n2, k2, e, h1, h2, h3, h4⟩ hS => ⟨A, n, k, A2, n2, k2, e, h1, h2, h3, h4.mono hS⟩⟩
theorem colP_one {M d : Nat} {S : Nat → Prop} {w : World} (x : Col) (c : List Value) (h : colP M d S w x c) : ∀ u ∈ c, u.oneCell' = true := by
  obtain ⟨A, n, k, A2, n2, k2, rfl, _⟩ := h
  intro u hu
  simp at hu
  rcases hu with rfl | rfl | rfl | rfl | rfl | rfl | rfl | rfl <;> rfl
theorem u16P_one (x : Nat) (c : List Value) (h : u16P x c) : ∀ u ∈ c, u.oneCell' = true := by
  obtain ⟨rfl, _⟩ := h
  intro u hu
  simp at hu
  subst hu
  rfl
def zC : List Value := [.string ⟨#[]⟩, .string ⟨#[]⟩, .string ⟨#[]⟩, .int .u16 0, .string ⟨#[]⟩, .string ⟨#[]⟩, .slice none 0 0, .slice none 0 0]
def zT : List Value := [.int .i64 0, .slice none 0 0, .bool false, .int .i64 0, .slice none 0 0, .slice none 0 0]
theorem tyCol : Ty 24 64 8 136 (.agg zC.toArray) := ⟨Tryd.underlying24, by kernel_rfl, rfl, by decide⟩
theorem tyU16 : Ty 44 51 1 2 (.int .u16 0) := ⟨Tryd.underlying44, by kernel_rfl, rfl, by decide⟩
/-- a row's place: where, how long, how long at most -/
abbrev Pl3 := Option Addr × Nat × Nat
abbrev Pl3.none : Pl3 := (Option.none, 0, 0)
structure CI (S : Nat → Prop) (w : World) (X Y R T : Nat) (s : Wr) (vs : List Value) (a : Pl3) (l : List Nat) (c : Pl3) (cs : List Col) (d : Pl3) (st : B) (ρ : Nat → Nat) (wx : World) : Prop where
  rd : RdAt (fun b => S b ∧ b < w.heap.size) wx X s
  bs : Bs ρ (fun b => b = X) w wx
  x9 : ρ X = 9
  y : Bx (Rl ρ 1) wx Y [.pointer (some ⟨X, 0, none⟩)]
  r : Bx (Rl ρ 2) wx R zT
  t : Bx (Rl ρ 3) wx T vs
  pl : OwnS 51 1 u16P (Rl ρ 4) wx a.1 a.2.1 a.2.2 l
  cl : OwnS 64 8 (colP 9223372036854775807 20 (Rl ρ 6) wx) (Rl ρ 5) wx c.1 c.2.1 c.2.2 cs
  st : Sl (Rl ρ 6) wx d.1 d.2.1 d.2.2 st
section
variable {S : Nat → Prop} {w : World} {X Y R T : Nat} {t1 t2 t3 : TypeId} {s s' : Wr} {vs vs' : List Value} {a c d : Pl3} {l : List Nat} {cs : List Col} {st : B} {ρ ρ' : Nat → Nat} {wx w' : World}
theorem CI.xlt (h : CI S w X Y R T s vs a l c cs d st ρ wx) : X < wx.heap.size := h.rd.lt
theorem CI.x9' (h : CI S w X Y R T s vs a l c cs d st ρ wx) {N t : Nat} (hN : wx.heap.size ≤ N) : xt ρ N t X = 9 := by rw [xt_lt (by have := h.xlt; omega)]; exact h.x9
theorem CI.call (h : CI S w X Y R T s vs a l c cs d st ρ wx) (hr : RdAt (fun b => S b ∧ b < w.heap.size) w' X s') (hg : wx.grownBy w' (some X)) (hx : ρ' = xt ρ wx.heap.size 6) : CI S w X Y R T s' vs a l c cs d st ρ' w' :=
  have hf : Fr (Rl ρ 9) wx w' := Fr.of_grown hg fun b e => by injection e with e; subst e; exact h.x9
  ⟨hr, h.bs.stepx hf hx, hx ▸ h.x9' (Nat.le_refl _), h.y.stepx hf hx, h.r.stepx hf hx, h.t.stepx hf hx, h.pl.stepx hf hx, (h.cl.stepx hf hx).deepx (Pf := colP 9223372036854775807 20) goesCol hf hx, hx ▸ goesSl.step h.st hf (by decide) _ (Nat.le_refl _)⟩
theorem CI.after (h : CI S w X Y R T s vs a l c cs d st ρ wx) (hb : Below wx.heap.size wx w') : CI S w X Y R T s vs a l c cs d st ρ w' :=
  ⟨h.rd.after hb, h.bs.after hb, h.x9, h.y.after hb, h.r.after hb, h.t.after hb, h.pl.after hb, (h.cl.after hb).deepA (Pf := colP 9223372036854775807 20) goesCol hb, goesSl.after h.st hb⟩
theorem CI.frX (h : CI S w X Y R T s vs a l c cs d st ρ wx) (hg : wx.grownBy w' (some X)) : Fr (Rl ρ 9) wx w' := Fr.of_grown hg fun b e => by injection e with e; subst e; exact h.x9
/-- a change in a block of role 7 or 8, the roles as they were -/
theorem CI.stay (h : CI S w X Y R T s vs a l c cs d st ρ wx) (hS : ∀ b, S b → b ≠ X) {q : Nat} (hq : q = 7 ∨ q = 8) (hf : Fr (Rl ρ q) wx w') : CI S w X Y R T s vs a l c cs d st ρ w' :=
  ⟨h.rd.fr hf (by show ¬ ρ X = q; rw [h.x9]; omega) (fun b hb => h.bs.zero (by omega) hb.2 (hS b hb.1)), h.bs.stay hf (by omega), h.x9, h.y.stay hf (by omega), h.r.stay hf (by omega), h.t.stay hf (by omega), h.pl.stay hf (by omega), (h.cl.stay hf (by omega)).deepS (Pf := colP 9223372036854775807 20) goesCol hf (by omega), goesSl.stay h.st hf (by omega)⟩
theorem CI.callE (h : CI S w X Y R T s vs a l c cs d st ρ wx) (hr : RdAt (fun b => S b ∧ b < w.heap.size) w' X s') (hg : wx.grownBy w' (some X)) : ∃ ρ', ρ' = xt ρ wx.heap.size 6 ∧ CI S w X Y R T s' vs a l c cs d st ρ' w' := ⟨_, rfl, h.call hr hg rfl⟩
theorem CI.put (h : CI S w X Y R T s vs a l c cs d st ρ wx) (hS : ∀ b, S b → b ≠ X) (i : Nat) (u : Value) (hi : i < vs.length) : CI S w X Y R T s (vs.set i u) a l c cs d st ρ (wx.setCell ⟨T, i, none⟩ u) :=
  have hf : Fr (Rl ρ 3) wx (wx.setCell ⟨T, i, none⟩ u) := h.t.frPut i u
  ⟨h.rd.fr hf (by show ¬ ρ X = 3; rw [h.x9]; decide) (fun b hb => h.bs.zero (by decide) hb.2 (hS b hb.1)), h.bs.stay hf, h.x9, h.y.stay hf, h.r.stay hf, h.t.put i u hi, goesOwnS.stay h.pl hf (by decide), (goesOwnS.stay h.cl hf (by decide)).deepS (Pf := colP 9223372036854775807 20) goesCol hf, goesSl.stay h.st hf (by decide)⟩
theorem CI.below (h : CI S w X Y R T s vs a l c cs d st ρ wx) (hS : ∀ b, S b → b ≠ X) {t : Nat} (hb : Below wx.heap.size wx w') (hx : ρ' = xt ρ wx.heap.size t) : CI S w X Y R T s vs a l c cs d st ρ' w' :=
  have hf : Fr (Rl ρ 10) wx w' := .of_below hb
  ⟨h.rd.after hb, h.bs.stepx hf hx, hx ▸ h.x9' (Nat.le_refl _), h.y.stepx hf hx, h.r.stepx hf hx, h.t.stepx hf hx, h.pl.stepx hf hx, (h.cl.stepx hf hx).deepx (Pf := colP 9223372036854775807 20) goesCol hf hx, hx ▸ goesSl.step h.st hf (by decide) _ (Nat.le_refl _)⟩
/-- a change in a block of role q (7, 8: boxes that are no part) -/
theorem CI.other (h : CI S w X Y R T s vs a l c cs d st ρ wx) (hS : ∀ b, S b → b ≠ X) {q t : Nat} (hq : q = 7 ∨ q = 8) (hf : Fr (Rl ρ q) wx w') (hx : ρ' = xt ρ wx.heap.size t) : CI S w X Y R T s vs a l c cs d st ρ' w' :=
  ⟨h.rd.fr hf (by show ¬ ρ X = q; rw [h.x9]; omega) (fun b hb => h.bs.zero (by omega) hb.2 (hS b hb.1)), h.bs.stepx hf hx (by omega), hx ▸ h.x9' (Nat.le_refl _), h.y.stepx hf hx (by omega), h.r.stepx hf hx (by omega), h.t.stepx hf hx (by omega), h.pl.stepx hf hx (by omega), (h.cl.stepx hf hx (by omega)).deepx (Pf := colP 9223372036854775807 20) goesCol hf hx (by omega), hx ▸ goesSl.step h.st hf (by omega) _ (Nat.le_refl _)⟩
/-- a call that reads on and may turn the boxes of roles 7, 8 -/
theorem CI.gen (h : CI S w X Y R T s vs a l c cs d st ρ wx) {T' : Nat → Prop} (hr : RdAt (fun b => S b ∧ b < w.heap.size) w' X s') (hf : Fr T' wx w') (hT : ∀ b, T' b → ρ b = 9 ∨ ρ b = 7 ∨ ρ b = 8) (hx : ρ' = xt ρ wx.heap.size 6) : CI S w X Y R T s' vs a l c cs d st ρ' w' := by
  have hn : ∀ q : Nat, q ≠ 9 → q ≠ 7 → q ≠ 8 → ∀ b, ρ b = q → ¬ T' b := fun q h1 h2 h3 b e ht => by rcases hT b ht with h | h | h <;> omega
  refine ⟨hr, ⟨fun b hb hX => by rw [hx, xt_lt (by have := h.bs.size; omega)]; exact h.bs.role b hb hX, h.bs.fr.seq hf fun b hb e => Classical.byContradiction fun hX => ?_⟩, hx ▸ h.x9' (Nat.le_refl _), h.y.stepT hf (hn 1 (by decide) (by decide) (by decide)) hx, h.r.stepT hf (hn 2 (by decide) (by decide) (by decide)) hx, h.t.stepT hf (hn 3 (by decide) (by decide) (by decide)) hx, hx ▸ goesOwnS.stepT h.pl hf (hn 4 (by decide) (by decide) (by decide)) 6, ?_, hx ▸ goesSl.stepT h.st hf (hn 6 (by decide) (by decide) (by decide)) 6⟩
  · have h0 := h.bs.role b hb hX
    rcases hT b e with h | h | h <;> omega
  · subst hx
    exact (goesOwnS.stepT h.cl hf (hn 5 (by decide) (by decide) (by decide)) 6).imp fun x _ v hp => (goesCol x v).stepT hp hf (hn 6 (by decide) (by decide) (by decide)) 6
/-- a place more -/
theorem CI.app4 (h : CI S w X Y R T s vs a l c cs d st ρ wx) (hS : ∀ b, S b → b ≠ X) {a' : Pl3} {l' : List Nat} (hf : Fr (Rl ρ 4) wx w') (hx : ρ' = xt ρ wx.heap.size 4) (hp : OwnS 51 1 u16P (Rl ρ' 4) w' a'.1 a'.2.1 a'.2.2 l') : CI S w X Y R T s vs a' l' c cs d st ρ' w' :=
  ⟨h.rd.fr hf (by show ¬ ρ X = 4; rw [h.x9]; decide) (fun b hb => h.bs.zero (by decide) hb.2 (hS b hb.1)), h.bs.stepx hf hx, hx ▸ h.x9' (Nat.le_refl _), h.y.stepx hf hx, h.r.stepx hf hx, h.t.stepx hf hx, hp, (h.cl.stepx hf hx).deepx (Pf := colP 9223372036854775807 20) goesCol hf hx, hx ▸ goesSl.step h.st hf (by decide) _ (Nat.le_refl _)⟩
/-- a column more -/
theorem CI.app5 (h : CI S w X Y R T s vs a l c cs d st ρ wx) (hS : ∀ b, S b → b ≠ X) {c' : Pl3} {cs' : List Col} (hf : Fr (Rl ρ 5) wx w') (hx : ρ' = xt ρ wx.heap.size 5) (hp : OwnS 64 8 (colP 9223372036854775807 20 (Rl ρ 6) wx) (Rl ρ' 5) w' c'.1 c'.2.1 c'.2.2 cs') : CI S w X Y R T s vs a l c' cs' d st ρ' w' :=
  ⟨h.rd.fr hf (by show ¬ ρ X = 5; rw [h.x9]; decide) (fun b hb => h.bs.zero (by decide) hb.2 (hS b hb.1)), h.bs.stepx hf hx, hx ▸ h.x9' (Nat.le_refl _), h.y.stepx hf hx, h.r.stepx hf hx, h.t.stepx hf hx, h.pl.stepx hf hx, hp.deepx (Pf := colP 9223372036854775807 20) goesCol hf hx, hx ▸ goesSl.step h.st hf (by decide) _ (Nat.le_refl _)⟩
/-- the state's bytes -/
theorem CI.sta (h : CI S w X Y R T s vs a l c cs d st ρ wx) {d' : Pl3} {st' : B} (hs : Sl (Rl ρ 6) wx d'.1 d'.2.1 d'.2.2 st') : CI S w X Y R T s vs a l c cs d' st' ρ wx :=
  ⟨h.rd, h.bs, h.x9, h.y, h.r, h.t, h.pl, h.cl, hs⟩
theorem CI.plain (h : CI S w X Y R T s vs a l c cs d st ρ wx) (hp : Pl w) (hX : X ≠ 0) : Pl wx := hp.keep (h.bs.fr.block 0 hp.pos fun e => hX e.symm)
theorem RdAt.ne0 (h : RdAt S w X s) (hp : Pl w) : X ≠ 0 := by
  rintro rfl
  obtain ⟨A, n, c, h0, _⟩ := h
  have := hp 0 [] rfl
  rw [this] at h0
  cases h0
/-- where the walk starts -/
theorem CI.start (h : RdAt S w X s) (hS : ∀ b, S b → b ≠ X) {vY : List Value} {o1 o2 o3 : Obj} (e1 : o1 = .cells #[.pointer (some ⟨X, 0, none⟩)] t1) (e2 : o2 = .cells zT.toArray t2) (e3 : o3 = .cells zT.toArray t3) :
    ∃ ρ, CI S w X w.heap.size (w.heap.size + 1) (w.heap.size + 1 + 1) s zT Pl3.none [] Pl3.none [] Pl3.none [] ρ (((w.alloc o1).alloc o2).alloc o3) := by
  subst e1 e2 e3
  have hlt := h.lt
  refine ⟨fun b => if b = X then 9 else if b < w.heap.size then 0 else if b = w.heap.size then 1 else if b = w.heap.size + 1 then 2 else if b = w.heap.size + 1 + 1 then 3 else 6, ?_⟩
  have hb : Below w.heap.size w (((w.alloc (.cells #[.pointer (some ⟨X, 0, none⟩)] t1)).alloc (.cells zT.toArray t2)).alloc (.cells zT.toArray t3)) := (by repeat (first | exact Below.refl _ _ | assumption | refine Below.drew ?_ | refine below_drewN ?_ _ | refine Below.alloc ?_ (by first | (simp; done) | omega | (simp; omega)) _ | refine Below.setCell ?_ (by first | (simp; done) | omega | (simp; omega)) _))
  have hA0 : RdAt (fun b => S b ∧ b < w.heap.size) w X s := by
    obtain ⟨A, n, c, h0, h1, h2, h3, h4⟩ := h
    exact ⟨A, n, c, h0, h1, h2, fun cur e => ⟨(h3 cur e).1.lt, (h3 cur e).2⟩, h4⟩
  have b1 := Bx.alloc w #[.pointer (some ⟨X, 0, none⟩)] t1 (S := fun b => b = w.heap.size) rfl rfl
  have b2 := Bx.alloc (w.alloc (.cells #[.pointer (some ⟨X, 0, none⟩)] t1)) zT.toArray t2 (S := fun b => b = w.heap.size + 1) (by simp) (X := w.heap.size + 1) (by simp)
  have b3 := Bx.alloc ((w.alloc (.cells #[.pointer (some ⟨X, 0, none⟩)] t1)).alloc (.cells zT.toArray t2)) zT.toArray t3 (S := fun b => b = w.heap.size + 1 + 1) (by simp) (X := w.heap.size + 1 + 1) (by simp)
  refine ⟨hA0.after hb, ⟨fun b h1 h2 => by simp [h1, h2], .of_below hb⟩, by simp, ?_, ?_, ?_, OwnS.nil, OwnS.nil, Sl.nil⟩
  · refine ((b1.after (by repeat (first | exact Below.refl _ _ | assumption | refine Below.drew ?_ | refine below_drewN ?_ _ | refine Below.alloc ?_ (by first | (simp; done) | omega | (simp; omega)) _ | refine Below.setCell ?_ (by first | (simp; done) | omega | (simp; omega)) _))).after (by repeat (first | exact Below.refl _ _ | assumption | refine Below.drew ?_ | refine below_drewN ?_ _ | refine Below.alloc ?_ (by first | (simp; done) | omega | (simp; omega)) _ | refine Below.setCell ?_ (by first | (simp; done) | omega | (simp; omega)) _))).mono ?_
    rintro b rfl _
    simp [Rl, show ¬ w.heap.size = X by omega]
  · refine (b2.after (by repeat (first | exact Below.refl _ _ | assumption | refine Below.drew ?_ | refine below_drewN ?_ _ | refine Below.alloc ?_ (by first | (simp; done) | omega | (simp; omega)) _ | refine Below.setCell ?_ (by first | (simp; done) | omega | (simp; omega)) _))).mono ?_
    rintro b rfl _
    simp [Rl, show ¬ w.heap.size + 1 = X by omega]
  · refine b3.mono ?_
    rintro b rfl _
    simp [Rl, show ¬ w.heap.size + 1 + 1 = X by omega, show ¬ w.heap.size + 1 + 1 < w.heap.size by omega, show ¬ w.heap.size + 1 + 1 = w.heap.size by omega]
/-- where it stands: what a store or a load asks -/
theorem CI.cell (h : CI S w X Y R T s vs a l c cs d st ρ wx) : wx.cell? ⟨Y, 0, none⟩ = some (.pointer (some ⟨X, 0, none⟩)) := h.y.c 0 _ rfl
theorem CI.belowE (h : CI S w X Y R T s vs a l c cs d st ρ wx) (hS : ∀ b, S b → b ≠ X) (hb : Below wx.heap.size wx w') (t : Nat) : ∃ ρ', ρ' = xt ρ wx.heap.size t ∧ CI S w X Y R T s vs a l c cs d st ρ' w' := ⟨_, rfl, h.below hS hb rfl⟩
theorem CI.genE (h : CI S w X Y R T s vs a l c cs d st ρ wx) {T' : Nat → Prop} (hr : RdAt (fun b => S b ∧ b < w.heap.size) w' X s') (hf : Fr T' wx w') (hT : ∀ b, T' b → ρ b = 9 ∨ ρ b = 7 ∨ ρ b = 8) : ∃ ρ', ρ' = xt ρ wx.heap.size 6 ∧ CI S w X Y R T s' vs a l c cs d st ρ' w' := ⟨_, rfl, h.gen hr hf hT rfl⟩
/-- what the result's box is told goes into no other -/
theorem CI.fin (h : CI S w X Y R T s vs a l c cs d st ρ wx) (hS : ∀ b, S b → b ≠ X) (hg : wx.grownBy w' (some R)) : RdAt S w' X s ∧ w.grownBy w' (some X) ∧ Arr 1 u16P (fun b => w.heap.size ≤ b) w' a.1 a.2.1 a.2.2 l ∧ Arr 8 (colP 9223372036854775807 20 (fun b => w.heap.size ≤ b) w') (fun b => w.heap.size ≤ b) w' c.1 c.2.1 c.2.2 cs ∧ Sl (fun b => w.heap.size ≤ b) w' d.1 d.2.1 d.2.2 st := by
  have hf : Fr (Rl ρ 2) wx w' := Fr.of_grown hg fun b e => by injection e with e; subst e; exact h.r.role
  have ge : ∀ {b k : Nat}, ρ b = k → k ≠ 0 → k ≠ 9 → w.heap.size ≤ b := fun e h0 h9 => h.bs.ge' h.x9 e h0 h9
  refine ⟨(h.rd.fr hf (by show ¬ ρ X = 2; rw [h.x9]; decide) (fun b hb => h.bs.zero (by decide) hb.2 (hS b hb.1))).monoS fun b hb => hb.1, (h.bs.stay hf).grown, ?_, ?_, ?_⟩
  · exact ((goesOwnS.stay h.pl hf (by decide)).arr (by decide)).mono fun b hb _ => ge hb (by decide) (by decide)
  · exact ((((goesOwnS.stay h.cl hf (by decide)).deepS (Pf := colP 9223372036854775807 20) goesCol hf).arr (by decide)).mono fun b hb _ => ge hb (by decide) (by decide)).imp fun x _ v hp => (goesCol x v).mono hp fun b hb _ => ge hb (by decide) (by decide)
  · exact goesSl.mono (goesSl.stay h.st hf (by decide)) fun b hb _ => ge hb (by decide) (by decide)
end
end Go.Proofs.Sb

/- Plain mathematics of rows' columns: the whole. No conditions. -/
namespace Sb
theorem gR_pureB {α β : Type} (g : B → Res α) (f : α → β) (s : Wr) : gR (fun b => bindR (g b) fun x b => .ok (f x, b)) s = gR g s := by
  cases s with
  | error e => rfl
  | ok cur =>
    cases h : g cur with
    | error e => rw [gR_err h, gR_err (bindR_err h)]
    | ok p => rw [gR_ok h]; exact gR_ok (x := (f p.1, p.2)) (bindR_ok h)
theorem tie_pureB {α β : Type} {g : B → Res α} (f : α → β) {s : Wr} {x : α} (h : Tie g s x) : Tie (fun b => bindR (g b) fun x b => .ok (f x, b)) s (f x) := by
  refine tie_bindT h ?_
  intro cur y rest _ h2
  injection h2 with h2; injection h2 with h2
/-- columns, by the flags' bits -/
def colsB (b0 b2 : Bool) (n : Nat) (b : B) : Res (List Col) := if b2 then .ok ([], b) else bindR (optR b0 ([], []) nmsR b) fun p b => getsM (colR b0 p) n b
theorem colsB_T (f n : Nat) : colsB (bitB f 0) (bitB f 2) n = colsT f n := rfl
theorem opt_true {α : Type} {d : α} {g : B → Res α} : optR true d g = g := rfl
theorem opt_false_R {α : Type} {d : α} {g : B → Res α} (s : Wr) : gR (optR false d g) s = s ∧ Tie (optR false d g) s d := by
  cases s with
  | error e => exact ⟨rfl, Tie.err⟩
  | ok cur => exact ⟨rfl, fun c y r h1 h2 => by injection h2 with h2; injection h2 with h2⟩
theorem colsB_two {b0 : Bool} {n : Nat} (s : Wr) : gR (colsB b0 true n) s = s ∧ Tie (colsB b0 true n) s [] := by
  cases s with
  | error e => exact ⟨rfl, Tie.err⟩
  | ok cur => exact ⟨rfl, fun c y r h1 h2 => by injection h2 with h2; injection h2 with h2⟩
theorem colsB_one {b0 : Bool} {n : Nat} {s : Wr} {p : B × B} {cs : List Col} (hp : Tie (optR b0 ([], []) nmsR) s p) (hc : Tie (getsM (colR b0 p) n) (gR (optR b0 ([], []) nmsR) s) cs) :
    gR (colsB b0 false n) s = gR (getsM (colR b0 p) n) (gR (optR b0 ([], []) nmsR) s) ∧ Tie (colsB b0 false n) s cs := by
  have e : colsB b0 false n = fun b => bindR (optR b0 ([], []) nmsR b) fun p b => getsM (colR b0 p) n b := rfl
  rw [e]
  exact ⟨gR_bindT hp, tie_bindT hp hc⟩
/-- the whole -/
theorem cols_fin {keys : Bool} {s s2 s3 s4 s5 s6 : Wr} {f : Int} {n : Nat} {l : List Nat} {v : Val} {cs : List Col} {b0 b1 b2 : Bool}
    (hf : f = gV 0 getNum s) (h2 : s2 = mustR (flagsT f) 21 (gR getNum s)) (hn : n = gV 0 getCnt s2) (h3 : s3 = gR getCnt s2)
    (hl : Tie (optR keys [] (placesR n)) s3 l) (h4 : s4 = gR (optR keys [] (placesR n)) s3)
    (hv : Tie (optR b1 Val.none getValue) s4 v) (h5 : s5 = gR (optR b1 Val.none getValue) s4)
    (hc : Tie (colsB b0 b2 n) s5 cs) (h6 : s6 = gR (colsB b0 b2 n) s5)
    (hb : ∀ c, s2 = .ok c → b0 = bitB f.toNat 0 ∧ b1 = bitB f.toNat 1 ∧ b2 = bitB f.toNat 2) : s6 = gR (colsR keys) s ∧ Tie (colsR keys) s (mkT n cs b1 v, l) := by
  have e1 : colsR keys = fun b => bindR (getNum b) fun f b => if flagsT f = false then .error 21 else
    bindR (getCnt b) fun n b => bindR (optR keys [] (placesR n) b) fun l b => bindR (optR (bitB f.toNat 1) Val.none getValue b) fun st b =>
    bindR (colsT f.toNat n b) fun cs b => .ok ((mkT n cs (bitB f.toNat 1) st, l), b) := rfl
  rw [e1]
  rw [gR_bind 0 getNum, ← hf, gR_must, ← h2, gR_bind 0 getCnt, ← hn, ← h3]
  cases hs2 : s2 with
  | error e =>
    rw [hs2] at h3
    subst h3 h4 h5 h6
    refine ⟨rfl, tie_bind (d := 0) ?_⟩
    rw [← hf]
    refine tie_must ?_
    rw [← h2, hs2]
    exact Tie.err
  | ok c =>
    obtain ⟨rfl, rfl, rfl⟩ := hb c hs2
    rw [colsB_T] at hc h6
    constructor
    · rw [gR_bindT hl, ← h4, gR_bindT hv, ← h5, gR_pureB, h6]
    · refine tie_bind (d := 0) ?_
      rw [← hf]
      refine tie_must ?_
      rw [← h2]
      refine tie_bind (d := 0) ?_
      rw [← hn, ← h3]
      refine tie_bindT hl ?_
      rw [← h4]
      refine tie_bindT hv ?_
      rw [← h5]
      exact tie_pureB (fun cs => (mkT n cs (bitB f.toNat 1) v, l)) hc
end Sb
