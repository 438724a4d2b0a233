/- What holds along the walk of the reference's Columns (layer 10). No conditions. -/
import Derived.Test.YtenhgcgdhaegaaaDoorTra
set_option linter.unusedVariables false
set_option linter.unusedSimpArgs false
namespace Go.Proofs.Sb
open Go.RowKit _root_.Sb
theorem tyC10 : Ty 33 87 8 136 (.agg #[.string ⟨#[]⟩, .string ⟨#[]⟩, .string ⟨#[]⟩, .int .u16 0, .string ⟨#[]⟩, .string ⟨#[]⟩, .slice none 0 0, .slice none 0 0]) := ⟨Tryd.underlying33, by kernel_rfl, rfl, by decide⟩
/-- the reference's table in its six cells -/
def rT (n : Int) (c : Pl3) (more : Bool) (v : Val) (q : Pl3) : List Value := [.int .i64 n, .slice c.1 c.2.1 c.2.2, .bool more, .int .i64 v.kind, .string (str v.bytes), .slice q.1 q.2.1 q.2.2]
def zR : List Value := [.int .i64 0, .slice none 0 0, .bool false, .int .i64 0, .string ⟨#[]⟩, .slice none 0 0]
structure CR (w : World) (R T : Nat) (vs : List Value) (a : Pl3) (l : List Nat) (c : Pl3) (cs : List Col) (ρ : Nat → Nat) (wx : World) : Prop where
  bs : Bs ρ (fun _ => False) w wx
  r : Bx (Rl ρ 2) wx R zR
  t : Bx (Rl ρ 3) wx T vs
  pl : OwnS 51 1 u16P (Rl ρ 4) wx a.1 a.2.1 a.2.2 l
  cl : OwnS 87 8 (colP 9223372036854775807 20 (Rl ρ 6) wx) (Rl ρ 5) wx c.1 c.2.1 c.2.2 cs
section
variable {w wx w' : World} {R T : Nat} {vs : List Value} {a c : Pl3} {l : List Nat} {cs : List Col} {ρ ρ' : Nat → Nat}
theorem CR.after (h : CR w R T vs a l c cs ρ wx) (hb : Below wx.heap.size wx w') : CR w R T vs a l c cs ρ w' :=
  ⟨h.bs.after hb, h.r.after hb, h.t.after hb, h.pl.after hb, (h.cl.after hb).deepA (Pf := colP 9223372036854775807 20) goesCol hb⟩
theorem CR.belowE (h : CR w R T vs a l c cs ρ wx) (hb : Below wx.heap.size wx w') (t : Nat) : ∃ ρ', ρ' = xt ρ wx.heap.size t ∧ CR w R T vs a l c cs ρ' w' :=
  have hf : Fr (Rl ρ 10) wx w' := .of_below hb
  ⟨_, rfl, h.bs.stepx hf rfl, h.r.stepx hf rfl, h.t.stepx hf rfl, h.pl.stepx hf rfl, (h.cl.stepx hf rfl).deepx (Pf := colP 9223372036854775807 20) goesCol hf rfl⟩
/-- a change in a box of role 7 or 8 -/
theorem CR.stay (h : CR w R T vs a l c cs ρ wx) {q : Nat} (hq : q = 7 ∨ q = 8) (hf : Fr (Rl ρ q) wx w') : CR w R T vs a l c cs ρ w' :=
  ⟨h.bs.stay hf (by omega), h.r.stay hf (by omega), h.t.stay hf (by omega), h.pl.stay hf (by omega), (h.cl.stay hf (by omega)).deepS (Pf := colP 9223372036854775807 20) goesCol hf (by omega)⟩
theorem CR.put (h : CR w R T vs a l c cs ρ wx) (i : Nat) (v : Value) (hi : i < vs.length) : CR w R T (vs.set i v) a l c cs ρ (wx.setCell ⟨T, i, none⟩ v) :=
  have hf : Fr (Rl ρ 3) wx (wx.setCell ⟨T, i, none⟩ v) := h.t.frPut i v
  ⟨h.bs.stay hf, h.r.stay hf, h.t.put i v hi, h.pl.stay hf, (h.cl.stay hf).deepS (Pf := colP 9223372036854775807 20) goesCol hf⟩
/-- the table's box written by another road -/
theorem CR.putB (h : CR w R T vs a l c cs ρ wx) {vs' : List Value} (hx : Bx (Rl ρ 3) w' T vs') (hg : wx.grownBy w' (some T)) : CR w R T vs' a l c cs ρ w' :=
  have hf : Fr (Rl ρ 3) wx w' := Fr.of_grown hg fun b e => by injection e with e; subst e; exact h.t.role
  ⟨h.bs.stay hf, h.r.stay hf, hx, h.pl.stay hf, (h.cl.stay hf).deepS (Pf := colP 9223372036854775807 20) goesCol hf⟩
theorem CR.app4 (h : CR w R T vs a l c cs ρ wx) {a' : Pl3} {l' : List Nat} (hf : Fr (Rl ρ 4) wx w') (hx : ρ' = xt ρ wx.heap.size 4) (hp : OwnS 51 1 u16P (Rl ρ' 4) w' a'.1 a'.2.1 a'.2.2 l') : CR w R T vs a' l' c cs ρ' w' :=
  ⟨h.bs.stepx hf hx, h.r.stepx hf hx, h.t.stepx hf hx, hp, (h.cl.stepx hf hx).deepx (Pf := colP 9223372036854775807 20) goesCol hf hx⟩
theorem CR.app5 (h : CR w R T vs a l c cs ρ wx) {c' : Pl3} {cs' : List Col} (hf : Fr (Rl ρ 5) wx w') (hx : ρ' = xt ρ wx.heap.size 5) (hp : OwnS 87 8 (colP 9223372036854775807 20 (Rl ρ 6) wx) (Rl ρ' 5) w' c'.1 c'.2.1 c'.2.2 cs') : CR w R T vs a l c' cs' ρ' w' :=
  ⟨h.bs.stepx hf hx, h.r.stepx hf hx, h.t.stepx hf hx, h.pl.stepx hf hx, hp.deepx (Pf := colP 9223372036854775807 20) goesCol hf hx⟩
theorem CR.fin (h : CR w R T vs a l c cs ρ wx) (hg : wx.grownBy w' (some R)) : Below w.heap.size w w' ∧ Arr 1 u16P (fun b => w.heap.size ≤ b) w' a.1 a.2.1 a.2.2 l ∧ Arr 8 (colP 9223372036854775807 20 (fun b => w.heap.size ≤ b) w') (fun b => w.heap.size ≤ b) w' c.1 c.2.1 c.2.2 cs := by
  have hf : Fr (Rl ρ 2) wx w' := Fr.of_grown hg fun b e => by injection e with e; subst e; exact h.r.role
  have ge : ∀ {b k : Nat}, ρ b = k → k ≠ 0 → w.heap.size ≤ b := fun e h0 => h.bs.ge e h0
  refine ⟨(h.bs.stay hf).below, ?_, ?_⟩
  · exact ((h.pl.stay hf).arr (by decide)).mono fun b hb _ => ge hb (by decide)
  · exact ((((h.cl.stay hf).deepS (Pf := colP 9223372036854775807 20) goesCol hf).arr (by decide)).mono fun b hb _ => ge hb (by decide)).imp fun x _ v hp => (goesCol x v).mono hp fun b hb _ => ge hb (by decide)
theorem CR.start {t1 t2 : TypeId} (w : World) : ∃ ρ, CR w w.heap.size (w.heap.size + 1) zR Pl3.none [] Pl3.none [] ρ ((w.alloc (.cells zR.toArray t1)).alloc (.cells zR.toArray t2)) := by
  refine ⟨fun b => if b < w.heap.size then 0 else if b = w.heap.size then 2 else if b = w.heap.size + 1 then 3 else 6, ⟨fun b h _ => if_pos h, .of_below (((Below.refl _ _).alloc (Nat.le_refl _) _).alloc (by simp) _)⟩, ?_, ?_, OwnS.nil, OwnS.nil⟩
  · refine (goesBx.after (Bx.alloc w zR.toArray t1 (S := fun b => b = w.heap.size) rfl rfl) ((Below.refl _ _).alloc (Nat.le_refl _) _)).mono ?_
    rintro b rfl _
    show (if w.heap.size < w.heap.size then 0 else if w.heap.size = w.heap.size then 2 else if w.heap.size = w.heap.size + 1 then 3 else 6) = 2
    rw [if_neg (by omega), if_pos rfl]
  · refine (Bx.alloc (w.alloc (.cells zR.toArray t1)) zR.toArray t2 (S := fun b => b = w.heap.size + 1) (by simp) (by simp)).mono ?_
    rintro b rfl _
    show (if w.heap.size + 1 < w.heap.size then 0 else if w.heap.size + 1 = w.heap.size then 2 else if w.heap.size + 1 = w.heap.size + 1 then 3 else 6) = 3
    rw [if_neg (by omega), if_neg (by omega), if_pos rfl]
end
/-- what Columns hands back -/
structure RTabR (w w' : World) (a c : Pl3) (t : Tb) (l : List Nat) : Prop where
  pl : Arr 1 u16P (fun b => w.heap.size ≤ b) w' a.1 a.2.1 a.2.2 l
  cl : Arr 8 (colP 9223372036854775807 20 (fun b => w.heap.size ≤ b) w') (fun b => w.heap.size ≤ b) w' c.1 c.2.1 c.2.2 t.cols
  n0 : 0 ≤ t.count
  n1 : t.count ≤ 4096
def rTV (t : Tb) (c q : Pl3) : List Value := rT t.count c t.more t.state q
def RIs (r : Res (Tb × List Nat)) (t : Tb) (l : List Nat) : Prop := ∀ p b, r = .ok (p, b) → p = (t, l)
theorem RIs.err {e : Int} {t : Tb} {l : List Nat} : RIs (.error e) t l := fun _ _ h => by cases h
theorem RIs.ok {t : Tb} {l : List Nat} {b : B} : RIs (.ok ((t, l), b)) t l := fun _ _ h => by cases h; rfl
def RColsPost (bs : B) (w : World) (r : Res (Tb × List Nat)) (e : Ending) (w' : World) : Prop :=
  ∃ (t : Tb) (l : List Nat) (a c : Pl3) (q : Nat), e = .returned (.tuple #[.agg (rTV t c Pl3.none).toArray, .slice a.1 a.2.1 a.2.2, .int .i64 (q : Int), .int .i64 (rerr r)]) ∧ RTabR w w' a c t l ∧ t.rows = [] ∧ RIs r t l ∧ AtR bs q r ∧ Below w.heap.size w w'
/-- an error: the table as far as it was read, no places -/
theorem CR.err {w wx w' : World} {R T : Nat} {vs : List Value} {a c : Pl3} {l : List Nat} {cs : List Col} {ρ : Nat → Nat} {bs : B} {r : Res (Tb × List Nat)} {e : Int} {n : Int} {more : Bool} {v : Val} (h : CR w R T vs a l c cs ρ wx) (hg : wx.grownBy w' (some R)) (hr : r = .error e) (h0 : 0 ≤ n) (h1 : n ≤ 4096) :
    RColsPost bs w r (.returned (.tuple #[.agg (rT n c more v Pl3.none).toArray, .slice none 0 0, .int .i64 0, .int .i64 e])) w' := by
  subst hr
  have hf := h.fin hg
  exact ⟨⟨n, cs, more, v, []⟩, [], Pl3.none, c, 0, rfl, ⟨Arr.nil, hf.2.2, h0, h1⟩, rfl, RIs.err, AtR.err, hf.1⟩
theorem CR.done {w wx w' : World} {R T : Nat} {vs : List Value} {a c : Pl3} {l : List Nat} {cs : List Col} {ρ : Nat → Nat} {bs b : B} {r : Res (Tb × List Nat)} {n q : Nat} {more : Bool} {v : Val} (h : CR w R T vs a l c cs ρ wx) (hg : wx.grownBy w' (some R)) (hr : r = .ok ((mkT n cs more v, l), b)) (hq : q ≤ bs.length) (hd : bs.drop q = b) (h1 : n ≤ 4096) :
    RColsPost bs w r (.returned (.tuple #[.agg (rT n c more v Pl3.none).toArray, .slice a.1 a.2.1 a.2.2, .int .i64 q, .int .i64 0])) w' := by
  subst hr
  have hf := h.fin hg
  exact ⟨mkT n cs more v, l, a, c, q, rfl, ⟨hf.2.1, hf.2.2, by show (0 : Int) ≤ (n : Int); omega, by show (n : Int) ≤ 4096; omega⟩, rfl, RIs.ok, AtR.ok hq hd, hf.1⟩
/-- a function whose first result lies in a box, three more in slots -/
theorem results_boxT4 {P : Program} {w : World} {S : Nat → Prop} {fn : Func} {p u v z : Tmp} {ty : TypeId} (h : fn.results = #[.cell p ty, .tmp u, .tmp v, .tmp z]) {X : Nat} {vs : List Value} (hB : Bx S w X vs) {tmps : Array Value} (hp : tmps.getD p undef = .pointer (some ⟨X, 0, none⟩)) {x y y2 : Value} (hx : tmps.getD u undef = x) (hy : tmps.getD v undef = y) (hz : tmps.getD z undef = y2) (d : TypeDesc)
    (hu : P.underlying ty = some d) (hd : d.isRow = true) (hi : (P.info? ty).map (·.size) = some vs.length) : (results fn tmps).run P w = .ok (.tuple #[.agg vs.toArray, x, y, y2]) w := by
  have h1 := run_loadVar_mid (P := P) w X 0 ty vs d hB.range hu hd hi
  have hp' : tmps[p]?.getD undef = .pointer (some ⟨X, 0, none⟩) := by simpa using hp
  have hx' : tmps[u]?.getD undef = x := by simpa using hx
  have hy' : tmps[v]?.getD undef = y := by simpa using hy
  have hz' : tmps[z]?.getD undef = y2 := by simpa using hz
  simp [results, h, hp', hx', hy', hz', asAddr, h1, Sem.run_bind, Result.andThen]
end Go.Proofs.Sb
