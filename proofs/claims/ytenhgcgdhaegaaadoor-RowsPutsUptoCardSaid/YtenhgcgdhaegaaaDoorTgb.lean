/- What holds along the walk of RowsGrid while the table is made. No conditions. -/
import Derived.Test.YtenhgcgdhaegaaaDoorTgr
set_option linter.unusedVariables false
set_option linter.unusedSimpArgs false
namespace Go.Proofs.Sb
open Go.RowKit _root_.Sb
theorem step_appX {w : World} {ops : Array Oper} {o : Oper} {a : Act} {K : Act → World → Prop} {Q : Exit → Act → World → Prop} {E : Prop} (hgd : o.guard = none) {t e : TypeId} {k bytes : Nat} {z : Value} (T : Ty t e k bytes z) (s x : Operand)
    (ho : o.op = .call { callee := .builtin .append, args := #[s, x], argTypes := #[t, t] })
    {α : Type} {P P2 : α → List Value → Prop} {ρ : Nat → Nat} {r : Nat} (A : Option Addr) (n c : Nat) (l : List α) (hs : a.eval s = .slice A n c) (hown : OwnS e k P (Rl ρ r) w A n c l)
    (S : Nat → Prop) (A2 : Option Addr) (m c2 : Nat) (l2 : List α) (hx : a.eval x = .slice A2 m c2) (hr : Arr k P2 S w A2 m c2 l2) (hP : ∀ x v, P2 x v → ∀ u ∈ v, u.oneCell' = true) (h21 : ∀ x ∈ l2, ∀ v, P2 x v → P x v)
    (hbytes : (n + m) * bytes ≤ 140737488355328) (h63 : n + m ≤ maxLen)
    (h : ∀ A' n' c' w' ρ', ρ' = xt ρ w.heap.size r → OwnS e k P (Rl ρ' r) w' A' n' c' (l ++ l2) → Fr (Rl ρ r) w w' → K (a.put o.dst (.slice A' n' c')) w') :
    if Region.wanted o (yielded ops a.tmps) = true then Oper.wp Tryd.prog o a w K Q else E :=
  step_appR hgd T s x ho A n c l hs hown S A2 m c2 l2 hx hr hP h21 hbytes h63 fun A' n' c' w' h1 h2 => h A' n' c' w' _ rfl h1 h2
/-- a table's box, its columns' row: what a region that makes a column may turn -/
abbrev G35 (N : Nat) (ρ : Nat → Nat) : Nat → Prop := fun b => N ≤ b ∨ ρ b = 3 ∨ ρ b = 5
theorem Fr.i5 {N : Nat} {ρ : Nat → Nat} {w w' : World} (h : Fr (Rl ρ 5) w w') : Fr (G35 N ρ) w w' := h.imp fun b _ e => .inr (.inr e)
theorem Fr.i3 {N : Nat} {ρ : Nat → Nat} {w w' : World} (h : Fr (Rl ρ 3) w w') : Fr (G35 N ρ) w w' := h.imp fun b _ e => .inr (.inl e)
structure GB (w : World) (T : Nat) (vs : List Value) (c : Pl3) (cs : List Col) (q : Pl3) (rs : List (List Val)) (u : Pl3) (us : List Val) (ρ : Nat → Nat) (wx : World) : Prop where
  bs : Bs ρ (fun _ => False) w wx
  t : Bx (Rl ρ 3) wx T vs
  cl : OwnS 64 8 (colP 9223372036854775807 0 (Rl ρ 6) wx) (Rl ρ 5) wx c.1 c.2.1 c.2.2 cs
  rw : OwnS 65 1 (vrowP (Rl ρ 6) wx) (Rl ρ 4) wx q.1 q.2.1 q.2.2 rs
  us : OwnS 26 2 (valP (Rl ρ 6) wx) (Rl ρ 7) wx u.1 u.2.1 u.2.2 us
section
variable {w wx w' : World} {T : Nat} {vs : List Value} {c q u : Pl3} {cs : List Col} {rs : List (List Val)} {us : List Val} {ρ ρ' : Nat → Nat}
theorem GB.after (h : GB w T vs c cs q rs u us ρ wx) (hb : Below wx.heap.size wx w') : GB w T vs c cs q rs u us ρ w' :=
  ⟨h.bs.after hb, h.t.after hb, (h.cl.after hb).deepA (Pf := colP 9223372036854775807 0) goesCol hb, (h.rw.after hb).deepA (Pf := vrowP) goesRow hb, (h.us.after hb).deepA (Pf := valP) goesVal hb⟩
theorem GB.belowE (h : GB w T vs c cs q rs u us ρ wx) (hb : Below wx.heap.size wx w') (t : Nat) : ∃ ρ', ρ' = xt ρ wx.heap.size t ∧ GB w T vs c cs q rs u us ρ' w' :=
  have hf : Fr (Rl ρ 10) wx w' := .of_below hb
  ⟨_, rfl, h.bs.stepx hf rfl, h.t.stepx hf rfl, (h.cl.stepx hf rfl).deepx (Pf := colP 9223372036854775807 0) goesCol hf rfl, (h.rw.stepx hf rfl).deepx (Pf := vrowP) goesRow hf rfl, (h.us.stepx hf rfl).deepx (Pf := valP) goesVal hf rfl⟩
theorem GB.app5 (h : GB w T vs c cs q rs u us ρ wx) {c' : Pl3} {cs' : List Col} (hf : Fr (Rl ρ 5) wx w') (hx : ρ' = xt ρ wx.heap.size 5) (hp : OwnS 64 8 (colP 9223372036854775807 0 (Rl ρ 6) wx) (Rl ρ' 5) w' c'.1 c'.2.1 c'.2.2 cs') : GB w T vs c' cs' q rs u us ρ' w' :=
  ⟨h.bs.stepx hf hx, h.t.stepx hf hx, hp.deepx (Pf := colP 9223372036854775807 0) goesCol hf hx, (h.rw.stepx hf hx).deepx (Pf := vrowP) goesRow hf hx, (h.us.stepx hf hx).deepx (Pf := valP) goesVal hf hx⟩
theorem GB.app4 (h : GB w T vs c cs q rs u us ρ wx) {q' : Pl3} {rs' : List (List Val)} (hf : Fr (Rl ρ 4) wx w') (hx : ρ' = xt ρ wx.heap.size 4) (hp : OwnS 65 1 (vrowP (Rl ρ 6) wx) (Rl ρ' 4) w' q'.1 q'.2.1 q'.2.2 rs') : GB w T vs c cs q' rs' u us ρ' w' :=
  ⟨h.bs.stepx hf hx, h.t.stepx hf hx, (h.cl.stepx hf hx).deepx (Pf := colP 9223372036854775807 0) goesCol hf hx, hp.deepx (Pf := vrowP) goesRow hf hx, (h.us.stepx hf hx).deepx (Pf := valP) goesVal hf hx⟩
theorem GB.app7 (h : GB w T vs c cs q rs u us ρ wx) {u' : Pl3} {us' : List Val} (hf : Fr (Rl ρ 7) wx w') (hx : ρ' = xt ρ wx.heap.size 7) (hp : OwnS 26 2 (valP (Rl ρ 6) wx) (Rl ρ' 7) w' u'.1 u'.2.1 u'.2.2 us') : GB w T vs c cs q rs u' us' ρ' w' :=
  ⟨h.bs.stepx hf hx, h.t.stepx hf hx, (h.cl.stepx hf hx).deepx (Pf := colP 9223372036854775807 0) goesCol hf hx, (h.rw.stepx hf hx).deepx (Pf := vrowP) goesRow hf hx, hp.deepx (Pf := valP) goesVal hf hx⟩
theorem GB.put (h : GB w T vs c cs q rs u us ρ wx) (i : Nat) (v : Value) (hi : i < vs.length) : GB w T (vs.set i v) c cs q rs u us ρ (wx.setCell ⟨T, i, none⟩ v) :=
  have hf : Fr (Rl ρ 3) wx (wx.setCell ⟨T, i, none⟩ v) := h.t.frPut i v
  ⟨h.bs.stay hf, h.t.put i v hi, (h.cl.stay hf).deepS (Pf := colP 9223372036854775807 0) goesCol hf, (h.rw.stay hf).deepS (Pf := vrowP) goesRow hf, (h.us.stay hf).deepS (Pf := valP) goesVal hf⟩
theorem GB.merge (h : GB w T vs c cs q rs u us ρ wx) : ∃ ρ', GB w T vs c cs q rs Pl3.none [] ρ' wx ∧ Arr 2 (valP (Rl ρ' 6) wx) (Rl ρ' 6) wx u.1 u.2.1 u.2.2 us := by
  refine ⟨fun b => if ρ b = 7 then 6 else ρ b, ?_⟩
  have hk : ∀ k, k ≠ 7 → ∀ b, ρ b = k → (if ρ b = 7 then 6 else ρ b) = k := fun k h5 b e => by rw [if_neg (by omega)]; exact e
  have h6 : ∀ b, ρ b = 7 → (if ρ b = 7 then 6 else ρ b) = 6 := fun b e => by rw [if_pos e]
  refine ⟨⟨⟨fun b h1 h2 => hk 0 (by decide) b (h.bs.role b h1 h2), h.bs.fr⟩, h.t.mono fun b e _ => hk 3 (by decide) b e, ?_, ?_, OwnS.nil⟩, ?_⟩
  · exact (h.cl.mono fun b e _ => hk 5 (by decide) b e).imp fun x _ v hp => (goesCol x v).mono hp fun b e _ => hk 6 (by decide) b e
  · exact (h.rw.mono fun b e _ => hk 4 (by decide) b e).imp fun x _ v hp => (goesRow x v).mono hp fun b e _ => hk 6 (by decide) b e
  · exact ((h.us.arr (by decide)).mono fun b e _ => h6 b e).imp fun x _ v hp => (goesVal x v).mono hp fun b e _ => hk 6 (by decide) b e
theorem GB.tb (h : GB w T vs c cs q rs u us ρ wx) (n : Int) : TbR 9223372036854775807 0 (fun _ => True) wx c Pl3.none q ⟨n, cs, false, Val.none, rs⟩ :=
  ⟨((h.cl.arr (by decide)).mono fun _ _ _ => trivial).imp fun x _ v hp => (goesCol x v).mono hp fun _ _ _ => trivial, Sl.nil, ((h.rw.arr (by decide)).mono fun _ _ _ => trivial).imp fun x _ v hp => (goesRow x v).mono hp fun _ _ _ => trivial⟩
theorem GB.start {vs : List Value} {t0 : TypeId} (w : World) (hT : Bx (fun b => b = w.heap.size) wx w.heap.size vs) (hb : Below w.heap.size w wx) : ∃ ρ, GB w w.heap.size vs Pl3.none [] Pl3.none [] Pl3.none [] ρ wx := by
  refine ⟨fun b => if b < w.heap.size then 0 else if b = w.heap.size then 3 else 6, ⟨fun b h _ => if_pos h, .of_below hb⟩, hT.mono ?_, OwnS.nil, OwnS.nil, OwnS.nil⟩
  rintro b rfl _
  show (if w.heap.size < w.heap.size then 0 else if w.heap.size = w.heap.size then 3 else 6) = 3
  rw [if_neg (by omega), if_pos rfl]
end
end Go.Proofs.Sb
