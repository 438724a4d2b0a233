/- What holds along the walk of rows.Get: the boxes, the rows, what they read as. No conditions. -/
import Derived.Test.YtenhgcgdhaegaaaDoorTak
import Derived.WalkMore
set_option linter.unusedVariables false
set_option linter.unusedSimpArgs false
namespace Sb
/-- a value of a row, in a state -/
theorem valT_R (s : Wr) : gR valT s = mustR (decide ((gV Val.none getValue s).kind ≠ 1)) 11 (gR getValue s) ∧ Tie valT s (gV Val.none getValue s) := by
  constructor
  · unfold valT
    rw [gR_bind Val.none getValue, gR_must]
    cases mustR (decide ((gV Val.none getValue s).kind ≠ 1)) 11 (gR getValue s) <;> rfl
  · refine tie_bind (d := Val.none) (tie_must ?_)
    intro cur y rest _ h2
    injection h2 with h2; injection h2 with h2
theorem cnt_pos {s : Wr} (h : 0 < gV 0 getCnt s) : ∃ rest, gR getCnt s = .ok rest := by
  cases s with
  | error e => exact absurd h (by simp [gV])
  | ok cur =>
    cases hc : getCnt cur with
    | error e => rw [gV_ok hc] at h; simp at h
    | ok p => exact ⟨p.2, gR_ok hc⟩
/-- how what is read ends -/
theorem end_fin {α : Type} {g : B → Res α} {b : B} {x : α} {s : Wr} (hs : s = gR g (.ok b)) (ht : Tie g (.ok b) x) (hn : Nz g) : (endE s ≠ 0 ∧ endR g b = .error (endE s)) ∨ (endE s = 0 ∧ endR g b = .ok x) := by
  cases hg : g b with
  | error e =>
    rw [gR_err hg] at hs
    subst hs
    refine .inl ⟨hn b e hg, ?_⟩
    unfold endR
    rw [hg]
    rfl
  | ok p =>
    obtain ⟨y, r⟩ := p
    rw [gR_ok hg] at hs
    subst hs
    have := ht b y r rfl hg
    subst this
    unfold endR
    rw [hg]
    by_cases hr : r.length = 0
    · exact .inr ⟨by simp [endE, hr], by simp [hr]⟩
    · exact .inl ⟨by simp [endE, hr], by simp [endE, hr]⟩
theorem tb_R {b : B} {t : Tb} {l : List Nat} {s1 s2 s3 : Wr} {m n : Nat} {rs : List (List Val)} (h1 : s1 = gR (colsR false) (.ok b)) (ht : Tie (colsR false) (.ok b) (t, l)) (hm : t.count = (m : Int)) (hn : n = gV 0 getCnt s1) (h2 : s2 = gR getCnt s1)
    (h3 : s3 = gR (rowsT m n) s2) (hr : Tie (rowsT m n) s2 rs) : s3 = gR tbR (.ok b) ∧ Tie tbR (.ok b) { t with rows := rs } := by
  have hm' : t.count.toNat = m := by omega
  constructor
  · unfold tbR
    rw [gR_bindT ht, ← h1, gR_bind 0 getCnt, ← hn, ← h2]
    simp only [hm']
    rw [gR_pureB]
    exact h3
  · unfold tbR
    refine tie_bindT ht ?_
    rw [← h1]
    refine tie_bind (d := 0) ?_
    rw [← hn, ← h2]
    simp only [hm']
    exact tie_pureB _ hr
def eV {α : Type} (d : α) : Except Int α → α | .ok x => x | .error _ => d
def eE {α : Type} : Except Int α → Int | .ok _ => 0 | .error e => e
end Sb
namespace Go.Proofs.Sb
open Go.RowKit _root_.Sb
/-- a value in two cells -/
def valP (S : Nat → Prop) (w : World) (v : Val) (c : List Value) : Prop := ∃ A n k, c = [.int .i64 v.kind, .slice A n k] ∧ Sl S w A n k v.bytes
theorem goesVal (v : Val) (c : List Value) : Goes fun S w => valP S w v c := ⟨fun ⟨A, n, k, e, h⟩ hs hk => ⟨A, n, k, e, goesSl.keep h hs hk⟩, fun ⟨A, n, k, e, h⟩ hS => ⟨A, n, k, e, goesSl.mono h hS⟩⟩
theorem valP_one {S : Nat → Prop} {w : World} (v : Val) (c : List Value) (h : valP S w v c) : ∀ u ∈ c, u.oneCell' = true := by
  obtain ⟨A, n, k, rfl, _⟩ := h
  intro u hu
  simp at hu
  rcases hu with rfl | rfl <;> rfl
theorem tyVal : Ty 65 26 2 32 (.agg #[.int .i64 0, .slice none 0 0]) := ⟨Tryd.underlying65, by kernel_rfl, rfl, by decide⟩
theorem tyRow : Ty 27 65 1 24 (.slice none 0 0) := ⟨Tryd.underlying27, by kernel_rfl, rfl, by decide⟩
theorem goesArrD {α : Type} {k : Nat} {Pf : (Nat → Prop) → World → α → List Value → Prop} (hG : ∀ x v, Goes fun S w => Pf S w x v) {A : Option Addr} {n c : Nat} {l : List α} : Goes fun S w => Arr k (Pf S w) S w A n c l :=
  ⟨fun h hs hk => (goesArr.keep h hs hk).imp fun x _ v hp => (hG x v).keep hp hs hk, fun {S S' w} h hS => (goesArr.mono h hS).imp fun x _ v hp => (hG x v).mono hp hS⟩
/-- a row in a cell -/
def vrowP (S : Nat → Prop) (w : World) (l : List Val) (c : List Value) : Prop := ∃ A n k, c = [.slice A n k] ∧ Arr 2 (valP S w) S w A n k l
theorem goesRow (l : List Val) (c : List Value) : Goes fun S w => vrowP S w l c := ⟨fun ⟨A, n, k, e, h⟩ hs hk => ⟨A, n, k, e, (goesArrD goesVal).keep h hs hk⟩, fun ⟨A, n, k, e, h⟩ hS => ⟨A, n, k, e, (goesArrD goesVal).mono h hS⟩⟩
theorem vrowP_one {S : Nat → Prop} {w : World} (v : List Val) (c : List Value) (h : vrowP S w v c) : ∀ u ∈ c, u.oneCell' = true := by
  obtain ⟨A, n, k, rfl, _⟩ := h
  intro u hu
  simp at hu
  subst hu
  rfl
/-- a table: its columns, its state, its rows -/
structure TbR (M dp : Nat) (S : Nat → Prop) (w : World) (c d q : Pl3) (t : Tb) : Prop where
  cl : Arr 8 (colP M dp S w) S w c.1 c.2.1 c.2.2 t.cols
  st : Sl S w d.1 d.2.1 d.2.2 t.state.bytes
  rw : Arr 1 (vrowP S w) S w q.1 q.2.1 q.2.2 t.rows
theorem goesTb {M dp : Nat} {c d q : Pl3} {t : Tb} : Goes fun S w => TbR M dp S w c d q t :=
  ⟨fun h hs hk => ⟨(goesArrD goesCol).keep h.cl hs hk, goesSl.keep h.st hs hk, (goesArrD goesRow).keep h.rw hs hk⟩, fun h hS => ⟨(goesArrD goesCol).mono h.cl hS, goesSl.mono h.st hS, (goesArrD goesRow).mono h.rw hS⟩⟩
theorem TbR.none {M dp : Nat} {S : Nat → Prop} {w : World} : TbR M dp S w Pl3.none Pl3.none Pl3.none Tb.none := ⟨Arr.nil, Sl.nil, Arr.nil⟩
theorem TbR.after {M dp : Nat} {S : Nat → Prop} {w w' : World} {c d q : Pl3} {t : Tb} (h : TbR M dp S w c d q t) (hb : Below w.heap.size w w') : TbR M dp S w' c d q t := goesTb.after h hb
theorem TbR.mono {M dp : Nat} {S S' : Nat → Prop} {w : World} {c d q : Pl3} {t : Tb} (h : TbR M dp S w c d q t) (hS : ∀ b, S b → b < w.heap.size → S' b) : TbR M dp S' w c d q t := goesTb.mono h hS

/-- along the walk of Get -/
structure GI (S : Nat → Prop) (w : World) (X R T : Nat) (s : Wr) (vs : List Value) (c : Pl3) (cs : List Col) (d : Pl3) (st : B) (q : Pl3) (rs : List (List Val)) (u : Pl3) (us : List Val) (ρ : Nat → Nat) (wx : World) : Prop where
  rd : RdAt (fun b => S b ∧ b < w.heap.size) wx X s
  bs : Bs ρ (fun _ => False) w wx
  x9 : ρ X = 9
  r : Bx (Rl ρ 2) wx R zT
  t : Bx (Rl ρ 3) wx T vs
  cl : Arr 8 (colP 9223372036854775807 20 (Rl ρ 6) wx) (Rl ρ 6) wx c.1 c.2.1 c.2.2 cs
  st : Sl (Rl ρ 6) wx d.1 d.2.1 d.2.2 st
  rw : OwnS 65 1 (vrowP (Rl ρ 6) wx) (Rl ρ 4) wx q.1 q.2.1 q.2.2 rs
  us : OwnS 26 2 (valP (Rl ρ 6) wx) (Rl ρ 5) wx u.1 u.2.1 u.2.2 us
section
variable {S : Nat → Prop} {w : World} {X R T : Nat} {s s' : Wr} {vs : List Value} {c d q u : Pl3} {cs : List Col} {st : B} {rs : List (List Val)} {us : List Val} {ρ ρ' : Nat → Nat} {wx w' : World}
theorem GI.xlt (h : GI S w X R T s vs c cs d st q rs u us ρ wx) : X < wx.heap.size := h.rd.lt
theorem GI.old (h : GI S w X R T s vs c cs d st q rs u us ρ wx) {k : Nat} (hk : (0 : Nat) ≠ k) (b : Nat) (hb : S b ∧ b < w.heap.size) : ¬ Rl ρ k b := h.bs.zero hk hb.2 fun h => h
theorem GI.after (h : GI S w X R T s vs c cs d st q rs u us ρ wx) (hb : Below wx.heap.size wx w') : GI S w X R T s vs c cs d st q rs u us ρ w' :=
  ⟨h.rd.after hb, h.bs.after hb, h.x9, h.r.after hb, h.t.after hb, (goesArrD goesCol).after h.cl hb, goesSl.after h.st hb, (h.rw.after hb).deepA (Pf := vrowP) goesRow hb, (h.us.after hb).deepA (Pf := valP) goesVal hb⟩
/-- a step that turns blocks of role 9 or 8 (or none); the new ones get role t -/
theorem GI.step (h : GI S w X R T s vs c cs d st q rs u us ρ wx) {k t : Nat} (hk : 6 < k) (hr : RdAt (fun b => S b ∧ b < w.heap.size) w' X s') (hf : Fr (Rl ρ k) wx w') (hx : ρ' = xt ρ wx.heap.size t) : GI S w X R T s' vs c cs d st q rs u us ρ' w' :=
  ⟨hr, h.bs.stepx hf hx (by omega), hx ▸ (by rw [xt_lt h.xlt]; exact h.x9), h.r.stepx hf hx (by omega), h.t.stepx hf hx (by omega), hx ▸ (goesArrD goesCol).step h.cl hf (by omega) _ (Nat.le_refl _), hx ▸ goesSl.step h.st hf (by omega) _ (Nat.le_refl _), (h.rw.stepx hf hx (by omega)).deepx (Pf := vrowP) goesRow hf hx (by omega), (h.us.stepx hf hx (by omega)).deepx (Pf := valP) goesVal hf hx (by omega)⟩
theorem GI.callE (h : GI S w X R T s vs c cs d st q rs u us ρ wx) (hr : RdAt (fun b => S b ∧ b < w.heap.size) w' X s') (hg : wx.grownBy w' (some X)) : ∃ ρ', ρ' = xt ρ wx.heap.size 6 ∧ GI S w X R T s' vs c cs d st q rs u us ρ' w' :=
  ⟨_, rfl, h.step (k := 9) (by decide) hr (Fr.of_grown hg fun b e => by injection e with e; subst e; exact h.x9) rfl⟩
theorem GI.belowE (h : GI S w X R T s vs c cs d st q rs u us ρ wx) (hb : Below wx.heap.size wx w') (t : Nat) : ∃ ρ', ρ' = xt ρ wx.heap.size t ∧ GI S w X R T s vs c cs d st q rs u us ρ' w' :=
  ⟨_, rfl, h.step (k := 10) (by decide) (h.rd.after hb) (.of_below hb) rfl⟩
/-- a value more -/
theorem GI.app5 (h : GI S w X R T s vs c cs d st q rs u us ρ wx) {u' : Pl3} {us' : List Val} (hf : Fr (Rl ρ 5) wx w') (hx : ρ' = xt ρ wx.heap.size 5) (hp : OwnS 26 2 (valP (Rl ρ 6) wx) (Rl ρ' 5) w' u'.1 u'.2.1 u'.2.2 us') : GI S w X R T s vs c cs d st q rs u' us' ρ' w' :=
  ⟨h.rd.fr hf (by show ¬ ρ X = 5; rw [h.x9]; decide) (h.old (by decide)), h.bs.stepx hf hx, hx ▸ (by rw [xt_lt h.xlt]; exact h.x9), h.r.stepx hf hx, h.t.stepx hf hx, hx ▸ (goesArrD goesCol).step h.cl hf (by decide) _ (Nat.le_refl _), hx ▸ goesSl.step h.st hf (by decide) _ (Nat.le_refl _), (h.rw.stepx hf hx).deepx (Pf := vrowP) goesRow hf hx, hp.deepx (Pf := valP) goesVal hf hx⟩
/-- a row more -/
theorem GI.app4 (h : GI S w X R T s vs c cs d st q rs u us ρ wx) {q' : Pl3} {rs' : List (List Val)} (hf : Fr (Rl ρ 4) wx w') (hx : ρ' = xt ρ wx.heap.size 4) (hp : OwnS 65 1 (vrowP (Rl ρ 6) wx) (Rl ρ' 4) w' q'.1 q'.2.1 q'.2.2 rs') : GI S w X R T s vs c cs d st q' rs' u us ρ' w' :=
  ⟨h.rd.fr hf (by show ¬ ρ X = 4; rw [h.x9]; decide) (h.old (by decide)), h.bs.stepx hf hx, hx ▸ (by rw [xt_lt h.xlt]; exact h.x9), h.r.stepx hf hx, h.t.stepx hf hx, hx ▸ (goesArrD goesCol).step h.cl hf (by decide) _ (Nat.le_refl _), hx ▸ goesSl.step h.st hf (by decide) _ (Nat.le_refl _), hp.deepx (Pf := vrowP) goesRow hf hx, (h.us.stepx hf hx).deepx (Pf := valP) goesVal hf hx⟩
theorem GI.put (h : GI S w X R T s vs c cs d st q rs u us ρ wx) (i : Nat) (v : Value) (hi : i < vs.length) : GI S w X R T s (vs.set i v) c cs d st q rs u us ρ (wx.setCell ⟨T, i, none⟩ v) :=
  have hf : Fr (Rl ρ 3) wx (wx.setCell ⟨T, i, none⟩ v) := h.t.frPut i v
  ⟨h.rd.fr hf (by show ¬ ρ X = 3; rw [h.x9]; decide) (h.old (by decide)), h.bs.stay hf, h.x9, h.r.stay hf, h.t.put i v hi, (goesArrD goesCol).stay h.cl hf (by decide), goesSl.stay h.st hf (by decide), (h.rw.stay hf).deepS (Pf := vrowP) goesRow hf, (h.us.stay hf).deepS (Pf := valP) goesVal hf⟩
/-- the row that was made is what stands -/
theorem GI.merge (h : GI S w X R T s vs c cs d st q rs u us ρ wx) : ∃ ρ', GI S w X R T s vs c cs d st q rs Pl3.none [] ρ' wx ∧ Arr 2 (valP (Rl ρ' 6) wx) (Rl ρ' 6) wx u.1 u.2.1 u.2.2 us := by
  refine ⟨fun b => if ρ b = 5 then 6 else ρ b, ?_⟩
  have hk : ∀ k, k ≠ 5 → ∀ b, ρ b = k → (if ρ b = 5 then 6 else ρ b) = k := fun k h5 b e => by rw [if_neg (by omega)]; exact e
  have h6 : ∀ b, ρ b = 5 → (if ρ b = 5 then 6 else ρ b) = 6 := fun b e => by rw [if_pos e]
  refine ⟨⟨h.rd, ⟨fun b h1 h2 => hk 0 (by decide) b (h.bs.role b h1 h2), h.bs.fr⟩, hk 9 (by decide) X h.x9, h.r.mono fun b e _ => hk 2 (by decide) b e, h.t.mono fun b e _ => hk 3 (by decide) b e, (goesArrD goesCol).mono h.cl fun b e _ => hk 6 (by decide) b e, goesSl.mono h.st fun b e _ => hk 6 (by decide) b e, ?_, OwnS.nil⟩, ?_⟩
  · exact (h.rw.mono fun b e _ => hk 4 (by decide) b e).imp fun x _ v hp => (goesRow x v).mono hp fun b e _ => hk 6 (by decide) b e
  · exact ((h.us.arr (by decide)).mono fun b e _ => h6 b e).imp fun x _ v hp => (goesVal x v).mono hp fun b e _ => hk 6 (by decide) b e
theorem GI.rest (h : GI S w X R T s vs c cs d st q rs u us ρ wx) : TbR 9223372036854775807 20 (fun b => w.heap.size ≤ b) wx c d q ⟨0, cs, false, ⟨0, st⟩, rs⟩ := by
  have ge : ∀ {b k : Nat}, ρ b = k → k ≠ 0 → w.heap.size ≤ b := fun e h0 => h.bs.ge e h0
  exact ⟨(goesArrD goesCol).mono h.cl fun b e _ => ge e (by decide), goesSl.mono h.st fun b e _ => ge e (by decide), ((h.rw.arr (by decide)).mono fun b e _ => ge e (by decide)).imp fun x _ v hp => (goesRow x v).mono hp fun b e _ => ge e (by decide)⟩
/-- what the result's box is told goes into no other -/
theorem GI.fin (h : GI S w X R T s vs c cs d st q rs u us ρ wx) {w' : World} (hg : wx.grownBy w' (some R)) : Below w.heap.size w w' ∧ TbR 9223372036854775807 20 (fun b => w.heap.size ≤ b) w' c d q ⟨0, cs, false, ⟨0, st⟩, rs⟩ := by
  have hf : Fr (Rl ρ 2) wx w' := Fr.of_grown hg fun b e => by injection e with e; subst e; exact h.r.role
  have hb := h.bs.stay hf
  have ge : ∀ {b k : Nat}, ρ b = k → k ≠ 0 → w.heap.size ≤ b := fun e h0 => hb.ge e h0
  exact ⟨hb.below, (goesArrD goesCol).mono ((goesArrD goesCol).stay h.cl hf (by decide)) fun b e _ => ge e (by decide), goesSl.mono (goesSl.stay h.st hf (by decide)) fun b e _ => ge e (by decide), ((((h.rw.stay hf).deepS (Pf := vrowP) goesRow hf).arr (by decide)).mono fun b e _ => ge e (by decide)).imp fun x _ v hp => (goesRow x v).mono hp fun b e _ => ge e (by decide)⟩
/-- where the walk starts -/
theorem GI.start {S2 : Nat → Prop} (hR : Bx (fun b => b = w.heap.size) wx w.heap.size zT) (hrd : RdAt (fun b => S b ∧ b < w.heap.size) wx (w.heap.size + 1) s) (hb : Below w.heap.size w wx) (hT : Bx (fun b => b = T) wx T vs) (hTX : w.heap.size + 1 < T) (hc : Arr 8 (colP 9223372036854775807 20 S2 wx) S2 wx c.1 c.2.1 c.2.2 cs) (hd : Sl S2 wx d.1 d.2.1 d.2.2 st) (hS2 : ∀ b, S2 b → w.heap.size + 1 < b ∧ b ≠ T) :
    ∃ ρ, GI S w (w.heap.size + 1) w.heap.size T s vs c cs d st Pl3.none [] Pl3.none [] ρ wx := by
  have h6 : ∀ b, S2 b → (if b = w.heap.size + 1 then 9 else if b < w.heap.size then 0 else if b = w.heap.size then 2 else if b = T then 3 else 6) = 6 := fun b hb => by
    have := hS2 b hb
    rw [if_neg (by omega), if_neg (by omega), if_neg (by omega), if_neg (by omega)]
  refine ⟨fun b => if b = w.heap.size + 1 then 9 else if b < w.heap.size then 0 else if b = w.heap.size then 2 else if b = T then 3 else 6, hrd, ⟨fun b h1 _ => by rw [if_neg (by omega), if_pos h1], .of_below hb⟩, if_pos rfl, hR.mono ?_, hT.mono ?_, (goesArrD goesCol).mono hc fun b hb _ => h6 b hb, goesSl.mono hd fun b hb _ => h6 b hb, OwnS.nil, OwnS.nil⟩
  · rintro b rfl _
    show (if w.heap.size = w.heap.size + 1 then 9 else if w.heap.size < w.heap.size then 0 else if w.heap.size = w.heap.size then 2 else if w.heap.size = T then 3 else 6) = 2
    rw [if_neg (by omega), if_neg (by omega), if_pos rfl]
  · rintro b rfl _
    show (if b = w.heap.size + 1 then 9 else if b < w.heap.size then 0 else if b = w.heap.size then 2 else if b = b then 3 else 6) = 3
    rw [if_neg (by omega), if_neg (by omega), if_neg (by omega), if_pos rfl]
end
end Go.Proofs.Sb

/- Walk over rows.Get. Conditions: lengths up to 2^47. (written by gen_tam.py) -/
namespace Go.Proofs.Sb
open Go.RowKit _root_.Sb
theorem TbR.of {M dp : Nat} {S : Nat → Prop} {w : World} {c d q : Pl3} {t t' : Tb} (h : TbR M dp S w c d q t) (h1 : t.cols = t'.cols) (h2 : t.state.bytes = t'.state.bytes) (h3 : t.rows = t'.rows) : TbR M dp S w c d q t' := ⟨h1 ▸ h.cl, h2 ▸ h.st, h3 ▸ h.rw⟩
def GetPost (w : World) (r : Except Int Tb) (e : Ending) (w' : World) : Prop := ∃ c d q : Pl3, e = .returned (.tuple #[.agg (tabV (eV Tb.none r) c d q).toArray, .int .i64 (eE r)]) ∧ TbR 9223372036854775807 20 (fun b => w.heap.size ≤ b) w' c d q (eV Tb.none r) ∧ Below w.heap.size w w'
set_option maxHeartbeats 8000000 in
set_option maxRecDepth 100000 in
theorem tGet_any {S : Nat → Prop} {A : Option Addr} {m0 c0 : Nat} {bs : B} {w : World} (hs : Sl S w A m0 c0 bs) (hm : m0 ≤ 140737488355328) (hpl : Pl w) :
    Calls Tryd.prog 10 #[.slice A m0 c0] w fun e w' => GetPost w (getTb bs) e w' := by
  have HSL := Lib.hid hs.lt; clear hs
  have HPL := Lib.hid hpl; clear hpl
  go_enter Tryd.func10, Tryd.ntmps10
  go_wp2_with fail
  go_step3
  go_wp2_with (first | (refine wpList_built (by rfl) 72 _ (by rfl) #[.slice A m0 c0, .int .i64 0] (by kernel_rfl) ?_))
  have hrd0 : RdAt (fun b => S b ∧ b < w.heap.size) ((w.alloc (.cells #[.int .i64 0, .slice none 0 0, .bool false, .int .i64 0, .slice none 0 0, .slice none 0 0] 29)).alloc (.cells #[.slice A m0 c0, .int .i64 0] 72)) (w.heap.size + 1) (.ok bs) :=
    ⟨A, m0, c0, by go_simp, by go_simp, fun o => by go_simp, fun cur e => by injection e with e; subst e; exact ⟨HSL.out.after (by repeat (first | exact Below.refl _ _ | assumption | refine Below.drew ?_ | refine below_drewN ?_ _ | refine Below.alloc ?_ (by first | (simp; done) | omega | (simp; omega)) _ | refine Below.setCell ?_ (by first | (simp; done) | omega | (simp; omega)) _)), hm⟩, fun e h => by cases h⟩
  have hR0 : Bx (fun b => b = w.heap.size) ((w.alloc (.cells #[.int .i64 0, .slice none 0 0, .bool false, .int .i64 0, .slice none 0 0, .slice none 0 0] 29)).alloc (.cells #[.slice A m0 c0, .int .i64 0] 72)) w.heap.size zT := (Bx.alloc w zT.toArray 29 (S := fun b => b = w.heap.size) rfl rfl).after (by repeat (first | exact Below.refl _ _ | assumption | refine Below.drew ?_ | refine below_drewN ?_ _ | refine Below.alloc ?_ (by first | (simp; done) | omega | (simp; omega)) _ | refine Below.setCell ?_ (by first | (simp; done) | omega | (simp; omega)) _))
  refine (columns_any (keys := false) hrd0 (fun b hb => by have := hb.2; omega) (HPL.out.after (by repeat (first | exact Below.refl _ _ | assumption | refine Below.drew ?_ | refine below_drewN ?_ _ | refine Below.alloc ?_ (by first | (simp; done) | omega | (simp; omega)) _ | refine Below.setCell ?_ (by first | (simp; done) | omega | (simp; omega)) _)))).mono ?_
  rintro e w1 ⟨t0, l, a, c, d, rfl, htr, ha1, hg1, hti⟩
  obtain ⟨s1, hs1⟩ : ∃ s1, s1 = gR (colsR false) (.ok bs) := ⟨_, rfl⟩
  rw [← hs1] at ha1
  have HS1 := Lib.hid hs1; clear hs1
  have HTI := Lib.hid hti; clear hti
  have hz1 := hg1.size
  simp at hz1
  have HR1 := Lib.hid (goesBx.grown hR0 hg1 (fun b e => by omega))
  have HB1 : Hid (Below w.heap.size w w1) := Below.grown1 (by repeat (first | exact Below.refl _ _ | assumption | refine Below.drew ?_ | refine below_drewN ?_ _ | refine Below.alloc ?_ (by first | (simp; done) | omega | (simp; omega)) _ | refine Below.setCell ?_ (by first | (simp; done) | omega | (simp; omega)) _)) hg1 (by simp; omega) (by omega)
  obtain ⟨tr1, tr2, tr3, tn0, tn1, trs⟩ := htr
  simp only [World.size_alloc] at tr2 tr3
  have HC1 := Lib.hid ((goesArrD goesCol).mono (S' := fun b => w.heap.size + 1 < b ∧ b < w1.heap.size) tr2 fun b hb hlt => ⟨by omega, hlt⟩)
  have HD1 := Lib.hid (goesSl.mono (S' := fun b => w.heap.size + 1 < b ∧ b < w1.heap.size) tr3 fun b hb hlt => ⟨by omega, hlt⟩)
  obtain ⟨m, hmc⟩ : ∃ m : Nat, t0.count = (m : Int) := ⟨t0.count.toNat, by omega⟩
  have hm4 : m ≤ 4096 := by omega
  have HMC := Lib.hid hmc; clear hmc
  have HRS := Lib.hid trs; clear trs
  have HA1 := Lib.hid ha1
  clear tr1 tr2 tr3 tn0 tn1 hrd0 hR0 ha1 hg1
  go_upto_region 3 with (first | (refine wpList_store_newB (by rfl) 29 _ _ (by rfl) _ _ _ _ (by rfl) (by rfl) (by simp) (by rfl) (by kernel_rfl) (by rfl) (by rfl) ?_; intro w2 hb2 hz2 hx2))
  obtain ⟨T, hT⟩ : ∃ T, T = w1.heap.size := ⟨_, rfl⟩
  rw [← hT]
  have i2 := GI.start (S := S) (S2 := fun b => w.heap.size + 1 < b ∧ b < w1.heap.size) (HR1.out.after hb2) (HA1.out.after hb2) (HB1.out.trans (hb2.mono HB1.out.size)) (hT ▸ hx2) (by omega) ((goesArrD goesCol).after HC1.out hb2) (goesSl.after HD1.out hb2) (fun b hb => ⟨hb.1, by omega⟩)
  obtain ⟨ρ2, i2⟩ := i2
  have I2 : Hid (GI S w (w.heap.size + 1) w.heap.size T s1 (tabV t0 c d Pl3.none) c t0.cols d t0.state.bytes Pl3.none [] Pl3.none [] ρ2 w2) := i2
  clear i2 hx2 HR1 HC1 HD1 HA1
  have hTw : w.heap.size + 1 < T := by omega
  clear hT hz2 hb2 hz1
  go_wp2_with fail
  refine (tcnt_any I2.out.rd (fun b hb => by have := hb.2; omega)).mono ?_
  obtain ⟨n, hn⟩ : ∃ n, n = gV 0 getCnt s1 := ⟨_, rfl⟩
  obtain ⟨s2, hs2⟩ : ∃ s2, s2 = gR getCnt s1 := ⟨_, rfl⟩
  have hn4 : n ≤ 4096 := hn ▸ cnt_le s1
  have HPOS : Hid (0 < n → ∃ rest, s2 = .ok rest) := by intro h0; rw [hs2]; rw [hn] at h0; exact cnt_pos h0
  rw [← hn, ← hs2]
  have HN := Lib.hid hn; clear hn
  have HS2 := Lib.hid hs2; clear hs2
  rintro e w3 ⟨rfl, ha3, hg3⟩
  obtain ⟨ρ3, hr3, i3⟩ := I2.out.callE ha3 hg3
  have I3 := Lib.hid i3
  clear hr3 i3 ha3 hg3 I2
  have HEND := Lib.hid (fun (sF : Wr) (rs : List (List Val)) (h1 : sF = gR (rowsT m n) s2) (h2 : Tie (rowsT m n) s2 rs) => end_fin (tb_R HS1.out HTI.out HMC.out HN.out HS2.out h1 h2).1 (tb_R HS1.out HTI.out HMC.out HN.out HS2.out h1 h2).2 nzTb)
  have hx3 := I3.out.xlt
  have ht3 := I3.out.t.lt
  clear HTI HN HS1 HS2
  go_wp2_with fail
  go_step3
  go_wp2_with fail
  go_loopw [8, 9, 22] (fun _ _ i wr => ∃ ρ k rs st q, k ≤ n ∧ i = .int .i64 (k : Nat) ∧ Hid (GI S w (w.heap.size + 1) w.heap.size T st (tabV t0 c d q) c t0.cols d t0.state.bytes q rs Pl3.none [] ρ wr) ∧ Hid (rs.length = k) ∧ Hid (PrgG (getsM valT m) n s2 k rs st) ∧ Hid (k < n → ∃ rest, st = .ok rest)) (fun _ _ i _ => n - (intOf i).toNat)
  case atStart => exact ⟨_, 0, [], s2, Pl3.none, by omega, rfl, I3, rfl, PrgG.zero _ _ _, HPOS⟩
  case round =>
    clear I3 hx3 ht3
    obtain ⟨ρ, k, rs, st, q, hk, rfl, I4, HL, HP, HOK⟩ := hrel
    have hx4 := I4.out.xlt
    have ht4 := I4.out.t.lt
    have hl4 := I4.out.r.lt
    have tn := I4.out.t.c 0 _ rfl
    rw [HMC.out] at tn
    by_cases hlt2 : k < n
    · obtain ⟨rest, hrest⟩ := HOK.out hlt2
      subst hrest
      obtain ⟨wo, hwo⟩ : ∃ wo, wo = wr := ⟨_, rfl⟩
      subst hwo
      go_wp2_with fail
      go_loopw [8, 9, 26] (fun rv _ j wr => ∃ ρ k2 us rest2 u, k2 ≤ m ∧ j = .int .i64 (k2 : Nat) ∧ rv = .slice u.1 u.2.1 u.2.2 ∧ Hid (GI S w (w.heap.size + 1) w.heap.size T (.ok rest2) (tabV t0 c d q) c t0.cols d t0.state.bytes q rs u us ρ wr) ∧ Hid (us.length = k2) ∧ Hid (PrgG valT m (.ok rest) k2 us (.ok rest2))) (fun _ _ j _ => m - (intOf j).toNat)
      case atStart => exact ⟨_, 0, [], rest, Pl3.none, by omega, rfl, rfl, I4, rfl, PrgG.zero _ _ _⟩
      case round =>
        clear I4 hx4 ht4 hl4 tn
        obtain ⟨ρ5, k2, us, rest2, u, hk2, rfl, rfl, I5, HL2, HP2⟩ := hrel
        have hx5 := I5.out.xlt
        have ht5 := I5.out.t.lt
        by_cases hlt3 : k2 < m
        · go_wp2_with fail
          refine (rdx_value I5.out.rd (fun b hb => by have := hb.2; omega)).mono ?_
          rintro e w6 ⟨⟨A6, n6, c6, rfl, hv6⟩, ha6, hg6⟩
          obtain ⟨ρ6, hr6, i6⟩ := I5.out.callE ha6 hg6
          have I6 := Lib.hid i6
          have HVR := Lib.hid (valT_R (.ok rest2))
          obtain ⟨v, hv⟩ : ∃ v, v = gV Val.none getValue (.ok rest2) := ⟨_, rfl⟩
          rw [← hv] at hv6 HVR ⊢
          have HV6 : Hid (Sl (Rl ρ6 6) w6 A6 n6 c6 v.bytes) := hv6.mono fun b hb _ => by rw [hr6]; exact xt_ge hb
          clear i6 hr6 ha6 hg6 hv6 hv I5 hx5 ht5
          have hx6 := I6.out.xlt
          have ht6 := I6.out.t.lt
          go_upto_region 10 with (first | (refine wpList_store_newB (by rfl) 26 _ _ (by rfl) _ _ _ _ (by rfl) (by rfl) (by simp) (by rfl) (by kernel_rfl) (by rfl) (by rfl) ?_; intro w7 hb7 hz7 hx7))
          have I7 := Lib.hid (I6.out.after hb7)
          have HV7 := Lib.hid (goesSl.after HV6.out hb7)
          have HC7 := Lib.hid hx7
          have HFC : Hid (∀ w', (∀ b, b = w6.heap.size → w'.heap[b]? = w7.heap[b]?) → w7.heap.size ≤ w'.heap.size → Bx (fun b => b = w6.heap.size) w' w6.heap.size [.int .i64 v.kind, .slice A6 n6 c6]) := fun w' hk hs => goesBx.keep hx7 hs fun b hb _ => hk b hb
          have vc0 := hx7.c 0 _ rfl
          clear hb7 hx7 I6 HV6 hx6 ht6
          have hx7 := I7.out.xlt
          have ht7 := I7.out.t.lt
          obtain ⟨kb, hkb⟩ : ∃ kb : Bool, (v.kind != 1) = kb := ⟨_, rfl⟩
          have hkc : decide (v.kind ≠ 1) = kb := by rw [← hkb]; by_cases h : v.kind = 1 <;> simp [h]
          have HKB := Lib.hid hkc; clear hkc
          go_wp2_with fail
          refine (rmust_any (is := kb) (er := 11) I7.out.rd (fun b hb => by have := hb.2; omega) (by decide)).mono ?_
          rintro e w8 ⟨rfl, ha8, hg8⟩
          rw [← HKB.out, ← HVR.out.1] at ha8
          obtain ⟨s8, hs8⟩ : ∃ s8, s8 = gR valT (.ok rest2) := ⟨_, rfl⟩
          rw [← hs8] at ha8
          have HP3 := Lib.hid (HP2.out.any hlt3 v HVR.out.2)
          rw [← hs8] at HP3
          clear hs8
          have HC8 := Lib.hid (HFC.out w8 (fun b hb => hg8.block b (by have := hz7; omega) (by intro e; injection e with e; omega)) hg8.size)
          obtain ⟨ρ8, hr8, i8⟩ := I7.out.callE ha8 hg8
          have I8 := Lib.hid i8
          have HV8 : Hid (Sl (Rl ρ8 6) w8 A6 n6 c6 v.bytes) := hr8 ▸ goesSl.step HV7.out (Fr.of_grown hg8 (S := Rl ρ6 9) fun b e => by injection e with e; subst e; exact I7.out.x9) (by decide) _ (Nat.le_refl _)
          clear hr8 i8 ha8 hg8 HV7 HC7 HFC I7 HVR HKB hkb vc0 hx7 ht7
          have hx8 := I8.out.xlt
          have ht8 := I8.out.t.lt
          have hl8 := I8.out.r.lt
          obtain ⟨AX, nX, cX, g0, g1, g2, g3, g4⟩ := I8.out.rd
          clear g0 g2 g3
          cases s8 with
          | error e =>
            have hne : e ≠ 0 := g4 e rfl
            clear g4
            simp only [werr_error] at g1
            obtain ⟨hst2, hti2⟩ := HP3.out.fin (.inr ⟨e, rfl⟩)
            have hp4 := HP.out.any hlt2 _ hti2
            rw [← hst2] at hp4
            obtain ⟨hst3, hti3⟩ := hp4.fin (.inr ⟨e, rfl⟩)
            have HE := Lib.hid (HEND.out (.error e) _ hst3 hti3)
            clear hst2 hti2 hp4 hst3 hti3
            go_wp2_with fail
            refine (tend_any I8.out.rd (fun b hb => by have := hb.2; omega)).mono ?_
            rintro e9 w9 ⟨rfl, ⟨s9, ha9⟩, hg9⟩
            obtain ⟨ρ9, hr9, i9⟩ := I8.out.callE ha9 hg9
            have I9 := Lib.hid i9
            clear hr9 i9 ha9 hg9 hx8 ht8 hl8
            have hE2 : getTb bs = .error e := by rcases HE.out with h | h; exact h.2; exact absurd h.1 hne
            have HE2 := Lib.hid hE2; clear hE2
            rw [show endE (.error e) = e from rfl]
            have hl9 := I9.out.r.lt
            go_wp2_with (first | (refine wpList_built (by rfl) 29 _ (by rfl) zT.toArray (by kernel_rfl) ?_) | (refine wpList_storeB I9.out.r (by rfl) 29 _ _ (by rfl) 0 zT (by rfl) (by rfl) (by kernel_rfl) (by show 0 + 6 ≤ 6; decide) (by rfl) ?_; intro wz hxz hgz; have HXZ := Lib.hid hxz; have HGZ := Lib.hid hgz; clear hxz hgz))
            (first | rw [Exit.noGoto_ret] | skip)
            refine bodyPost_ret (results_box (vs := zT) rfl HXZ.out (by rfl) (by rfl) _ Tryd.underlying29 rfl (by kernel_rfl)) rfl ?_
            rw [HE2.out]
            exact ⟨Pl3.none, Pl3.none, Pl3.none, rfl, TbR.none, (I9.out.fin HGZ.out).1⟩
          | ok rest3 =>
            clear g4
            simp only [werr_ok] at g1
            have hul : u.2.1 ≤ 4096 := by have := I8.out.us.len (by decide); have := HL2.out; omega
            have hba : Below w8.heap.size w8 (w8.alloc (.cells #[.int .i64 v.kind, .slice A6 n6 c6] 26)) := (Below.refl _ _).alloc (Nat.le_refl _) _
            have IA := Lib.hid (I8.out.after hba)
            have HVA := Lib.hid (goesSl.after HV8.out hba)
            clear hba
            have vc0 := HC8.out.c 0 _ rfl
            have vc1 := HC8.out.c 1 _ rfl
            go_wp2_with (first | (refine wpList_loadB HC8.out (by rfl) 26 _ (by rfl) (by rfl) _ Tryd.underlying26 rfl (by kernel_rfl) ?_) | (at_builtin; go_loud (refine wpList_appX rfl tyVal _ _ rfl (ρ := ρ8) (r := 5) _ _ _ us rfl IA.out.us _ _ _ _ [v] rfl (arr_lit (P := valP (Rl ρ8 6) _) _ #[.int .i64 v.kind, .slice A6 n6 c6] v rfl ⟨A6, n6, c6, rfl, HVA.out⟩ (by simp)) (fun _ _ h => valP_one _ _ h) (fun _ _ _ h => h) (by omega) (by unfold maxLen; omega) ?_); intro A9 m9 d9 w9 ρ9 hx9 hown9 hf9; have I9 := Lib.hid (IA.out.app5 (u' := (A9, m9, d9)) hf9 hx9 hown9); clear hx9 hown9 hf9))
            refine ⟨⟨ρ9, k2 + 1, us ++ [v], rest3, (A9, m9, d9), by omega, by go_num, rfl, I9, by rw [List.length_append, HL2.out]; rfl, HP3⟩, by simp [intOf]; omega⟩
        · obtain rfl : m = k2 := by omega
          obtain ⟨hst2, hti2⟩ := HP2.out.fin (.inl rfl)
          have hp4 := HP.out.any hlt2 _ hti2
          rw [← hst2] at hp4
          have HP4 := Lib.hid hp4
          clear hst2 hti2 hp4
          obtain ⟨ρ6, i6, hu6⟩ := I5.out.merge
          have HU := Lib.hid hu6
          have I6 := Lib.hid i6
          clear i6 hu6 I5
          have hql : q.2.1 ≤ 4096 := by have := I6.out.rw.len (by decide); have := HL.out; omega
          have hba : Below wr.heap.size wr (wr.alloc (.cells #[.slice u.1 u.2.1 u.2.2] 65)) := (Below.refl _ _).alloc (Nat.le_refl _) _
          have IA := Lib.hid (I6.out.after hba)
          have HUA := Lib.hid ((goesArrD goesVal).after HU.out hba)
          clear hba
          have t5 := I6.out.t.c 5 _ rfl
          go_wp2_with (first | (at_builtin; go_loud (refine wpList_appX rfl tyRow _ _ rfl (ρ := ρ6) (r := 4) _ _ _ rs rfl IA.out.rw _ _ _ _ [us] rfl (arr_lit (P := vrowP (Rl ρ6 6) _) _ #[.slice u.1 u.2.1 u.2.2] us rfl ⟨u.1, u.2.1, u.2.2, rfl, HUA.out⟩ (by simp)) (fun _ _ h => vrowP_one _ _ h) (fun _ _ _ h => h) (by omega) (by unfold maxLen; omega) ?_); intro A9 m9 d9 w9 ρ9 hx9 hown9 hf9; have I9 := Lib.hid (IA.out.app4 (q' := (A9, m9, d9)) hf9 hx9 hown9); clear hx9 hown9 hf9; have t5b := I9.out.t.c 5 _ rfl; have kt5 := I9.out.t.fr 5; have ht9 := I9.out.t.lt))
          have I10 := Lib.hid (I9.out.put 5 (.slice A9 m9 d9) (by show 5 < 6; decide))
          refine ⟨⟨ρ9, k + 1, rs ++ [us], .ok rest2, (A9, m9, d9), by omega, by go_num, I10, by rw [List.length_append, HL.out]; rfl, HP4, fun _ => ⟨_, rfl⟩⟩, by simp [intOf]; omega⟩
    · obtain rfl : n = k := by omega
      obtain ⟨hst3, hti3⟩ := HP.out.fin (.inl rfl)
      have HE := Lib.hid (HEND.out st rs hst3 hti3)
      clear hst3 hti3
      obtain ⟨eN, heN⟩ : ∃ eN, eN = endE st := ⟨_, rfl⟩
      rw [← heN] at HE
      go_wp2_with fail
      refine (tend_any I4.out.rd (fun b hb => by have := hb.2; omega)).mono ?_
      rintro e9 w9 ⟨rfl, ⟨s9, ha9⟩, hg9⟩
      rw [← heN]
      clear heN
      obtain ⟨ρ9, hr9, i9⟩ := I4.out.callE ha9 hg9
      have I9 := Lib.hid i9
      clear hr9 i9 ha9 hg9 hx4 ht4 hl4 tn
      have hl9 := I9.out.r.lt
      rcases HE.out with hE | hE
      · obtain ⟨hne, hE2⟩ := hE
        have HE2 : Hid (getTb bs = .error eN) := hE2
        clear hE2
        go_wp2_with (first | (refine wpList_built (by rfl) 29 _ (by rfl) zT.toArray (by kernel_rfl) ?_) | (refine wpList_storeB I9.out.r (by rfl) 29 _ _ (by rfl) 0 zT (by rfl) (by rfl) (by kernel_rfl) (by show 0 + 6 ≤ 6; decide) (by rfl) ?_; intro wz hxz hgz; have HXZ := Lib.hid hxz; have HGZ := Lib.hid hgz; clear hxz hgz))
        (first | rw [Exit.noGoto_ret] | skip)
        refine bodyPost_ret (results_box (vs := zT) rfl HXZ.out (by rfl) (by rfl) _ Tryd.underlying29 rfl (by kernel_rfl)) rfl ?_
        rw [HE2.out]
        exact ⟨Pl3.none, Pl3.none, Pl3.none, rfl, TbR.none, (I9.out.fin HGZ.out).1⟩
      · obtain ⟨h0, hE2⟩ := hE
        have HE2 := Lib.hid hE2; clear hE2
        have HE2' : Hid (getTb bs = .ok { t0 with rows := rs }) := HE2.out
        go_wp2_with (first | (refine wpList_loadB I9.out.t (by rfl) 29 _ (by rfl) (by rfl) _ Tryd.underlying29 rfl (by kernel_rfl) ?_) | (refine wpList_storeB I9.out.r (by rfl) 29 _ _ (by rfl) 0 (tabV t0 c d q) (by rfl) (by rfl) (by kernel_rfl) (by show 0 + 6 ≤ 6; decide) (by rfl) ?_; intro wz hxz hgz; have HXZ := Lib.hid hxz; have HGZ := Lib.hid hgz; clear hxz hgz))
        (first | rw [Exit.noGoto_ret] | skip)
        refine bodyPost_ret (results_box (vs := tabV t0 c d q) rfl HXZ.out (by rfl) (by rfl) _ Tryd.underlying29 rfl (by kernel_rfl)) rfl ?_
        have hfin := I9.out.fin HGZ.out
        rw [HE2'.out]
        exact ⟨c, d, q, rfl, hfin.2.of rfl rfl rfl, hfin.1⟩
end Go.Proofs.Sb

/- Walk over rows.GetMeta. Conditions: lengths up to 2^47. (written by gen_tan.py) -/
namespace Sb
theorem meta_R {b : B} {t1 t2 : Tb} {l l2 : List Nat} {s1 s2 : Wr} (h1 : s1 = gR (colsR true) (.ok b)) (ht : Tie (colsR true) (.ok b) (t1, l)) (h2 : s2 = gR (colsR false) s1) (ht2 : Tie (colsR false) s1 (t2, l2)) : s2 = gR metaR (.ok b) ∧ Tie metaR (.ok b) (l, t1, t2) := by
  constructor
  · unfold metaR
    rw [gR_bindT ht, ← h1]
    rw [gR_pureB (colsR false) (fun q => (l, t1, q.1))]
    exact h2
  · unfold metaR
    refine tie_bindT ht ?_
    rw [← h1]
    exact tie_pureB (fun q : Tb × List Nat => (l, t1, q.1)) ht2
def mNone : List Nat × Tb × Tb := ([], Tb.none, Tb.none)
end Sb
namespace Go.Proofs.Sb
open Go.RowKit _root_.Sb
def metaV (t1 t2 : Tb) (a c1 d1 q1 c2 d2 q2 : Pl3) : List Value := [.slice a.1 a.2.1 a.2.2, .int .i64 t1.count, .slice c1.1 c1.2.1 c1.2.2, .bool t1.more, .int .i64 t1.state.kind, .slice d1.1 d1.2.1 d1.2.2, .slice q1.1 q1.2.1 q1.2.2, .int .i64 t2.count, .slice c2.1 c2.2.1 c2.2.2, .bool t2.more, .int .i64 t2.state.kind, .slice d2.1 d2.2.1 d2.2.2, .slice q2.1 q2.2.1 q2.2.2]
def zM : List Value := [.slice none 0 0, .int .i64 0, .slice none 0 0, .bool false, .int .i64 0, .slice none 0 0, .slice none 0 0, .int .i64 0, .slice none 0 0, .bool false, .int .i64 0, .slice none 0 0, .slice none 0 0]
def MetaPost (w : World) (r : Except Int (List Nat × Tb × Tb)) (e : Ending) (w' : World) : Prop := ∃ a c1 d1 c2 d2 : Pl3, e = .returned (.tuple #[.agg (metaV (eV mNone r).2.1 (eV mNone r).2.2 a c1 d1 Pl3.none c2 d2 Pl3.none).toArray, .int .i64 (eE r)]) ∧ Arr 1 u16P (fun b => w.heap.size ≤ b) w' a.1 a.2.1 a.2.2 (eV mNone r).1 ∧ TbR 9223372036854775807 20 (fun b => w.heap.size ≤ b) w' c1 d1 Pl3.none (eV mNone r).2.1 ∧ TbR 9223372036854775807 20 (fun b => w.heap.size ≤ b) w' c2 d2 Pl3.none (eV mNone r).2.2 ∧ Below w.heap.size w w'
theorem TabR.tb {w w' : World} {a c d : Pl3} {t : Tb} {l : List Nat} (h : TabR w w' a c d t l) : TbR 9223372036854775807 20 (fun b => w.heap.size ≤ b) w' c d Pl3.none t := ⟨h.cl, h.st, h.rs ▸ Arr.nil⟩
set_option maxHeartbeats 8000000 in
set_option maxRecDepth 100000 in
theorem tMeta_any {S : Nat → Prop} {A : Option Addr} {m0 c0 : Nat} {bs : B} {w : World} (hs : Sl S w A m0 c0 bs) (hm : m0 ≤ 140737488355328) (hpl : Pl w) :
    Calls Tryd.prog 14 #[.slice A m0 c0] w fun e w' => MetaPost w (getMeta bs) e w' := by
  have HSL := Lib.hid hs.lt; clear hs
  have HPL := Lib.hid hpl; clear hpl
  go_enter Tryd.func14, Tryd.ntmps14
  go_wp2_with (first | (refine wpList_built (by rfl) 72 _ (by rfl) #[.slice A m0 c0, .int .i64 0] (by kernel_rfl) ?_))
  obtain ⟨w3, hw3⟩ : ∃ w3, w3 = (((w.alloc (.cells #[.slice none 0 0, .int .i64 0, .slice none 0 0, .bool false, .int .i64 0, .slice none 0 0, .slice none 0 0, .int .i64 0, .slice none 0 0, .bool false, .int .i64 0, .slice none 0 0, .slice none 0 0] 46)).alloc (.cells #[.slice A m0 c0, .int .i64 0] 72)).alloc (.cells #[.slice none 0 0, .int .i64 0, .slice none 0 0, .bool false, .int .i64 0, .slice none 0 0, .slice none 0 0, .int .i64 0, .slice none 0 0, .bool false, .int .i64 0, .slice none 0 0, .slice none 0 0] 46)) := ⟨_, rfl⟩
  have hz3 : w3.heap.size = w.heap.size + 1 + 1 + 1 := by rw [hw3]; simp
  have hrd3 : RdAt (fun b => S b ∧ b < w.heap.size) w3 (w.heap.size + 1) (.ok bs) := by
    subst hw3
    exact ⟨A, m0, c0, by go_simp, by go_simp, fun o => by go_simp, fun cur e => by injection e with e; subst e; exact ⟨HSL.out.after (by repeat (first | exact Below.refl _ _ | assumption | refine Below.drew ?_ | refine below_drewN ?_ _ | refine Below.alloc ?_ (by first | (simp; done) | omega | (simp; omega)) _ | refine Below.setCell ?_ (by first | (simp; done) | omega | (simp; omega)) _)), hm⟩, fun e h => by cases h⟩
  have HB3 : Hid (Below w.heap.size w w3) := by
    rw [hw3]
    exact Lib.hid (by repeat (first | exact Below.refl _ _ | assumption | refine Below.drew ?_ | refine below_drewN ?_ _ | refine Below.alloc ?_ (by first | (simp; done) | omega | (simp; omega)) _ | refine Below.setCell ?_ (by first | (simp; done) | omega | (simp; omega)) _))
  have hR3 : Bx (fun b => b = w.heap.size) w3 w.heap.size zM := by
    rw [hw3]
    exact (Bx.alloc w zM.toArray 46 (S := fun b => b = w.heap.size) rfl rfl).after (by repeat (first | exact Below.refl _ _ | assumption | refine Below.drew ?_ | refine below_drewN ?_ _ | refine Below.alloc ?_ (by first | (simp; done) | omega | (simp; omega)) _ | refine Below.setCell ?_ (by first | (simp; done) | omega | (simp; omega)) _))
  have hM3 : Bx (fun b => b = w.heap.size + 1 + 1) w3 (w.heap.size + 1 + 1) zM := by
    rw [hw3]
    exact Bx.alloc _ zM.toArray 46 (S := fun b => b = w.heap.size + 1 + 1) (by simp) (by simp)
  have HZ3 := Lib.hid hz3
  rw [← hw3]
  clear hw3 hz3
  have HPL3 := Lib.hid (HPL.out.after HB3.out)
  refine (columns_any (keys := true) hrd3 (fun b hb => by have := hb.2; omega) HPL3.out).mono ?_
  rintro e w4 ⟨t1, l, a, c1, d1, rfl, htr1, ha4, hg4, hti1⟩
  obtain ⟨s1, hs1⟩ : ∃ s1, s1 = gR (colsR true) (.ok bs) := ⟨_, rfl⟩
  rw [← hs1] at ha4
  have HS1 := Lib.hid hs1; clear hs1
  have HTI1 := Lib.hid hti1; clear hti1
  have HT1 := Lib.hid htr1.tb
  have HL1 := Lib.hid htr1.pl
  have HR4 := Lib.hid (goesBx.grown hR3 hg4 (fun b e => by omega))
  have HM4 := Lib.hid (goesBx.grown hM3 hg4 (fun b e => by omega))
  have HA4 := Lib.hid ha4
  have HB4 : Hid (Below w.heap.size w w4) := Below.grown1 HB3.out hg4 HB3.out.size (by omega)
  have hz4 : w3.heap.size ≤ w4.heap.size := hg4.size
  have hml4 := HM4.out.lt
  clear hrd3 hR3 hM3 htr1 ha4 hg4
  have HW4 := Lib.hid (rfl : w4 = w4)
  go_upto_region 4 with (first | (refine wpList_storeB HM4.out (by rfl) 29 _ _ (by rfl) 1 (tabV t1 c1 d1 Pl3.none) (by rfl) (by rfl) (by kernel_rfl) (by show 1 + 6 ≤ 13; decide) (by rfl) ?_; intro w5 hx5 hg5; have m50 := hx5.c 0 _ rfl; have k50 := hx5.fr 0; have ml5 := hx5.lt))
  have HM6 := Lib.hid (hx5.put 0 (.slice a.1 a.2.1 a.2.2) (by show 0 < 13; decide))
  have hg6 := grow_seq hg5 (grow_setCell w5 (w.heap.size + 1 + 1) 0 (.slice a.1 a.2.1 a.2.2)) fun j e => .inr e
  obtain ⟨w6, hw6⟩ : ∃ w6, w6 = w5.setCell ⟨w.heap.size + 1 + 1, 0, none⟩ (.slice a.1 a.2.1 a.2.2) := ⟨_, rfl⟩
  rw [← hw6] at HM6 hg6 ⊢
  clear hw6 hx5 hg5 m50 k50 ml5
  have HA6 := Lib.hid (HA4.out.grown hg6 (fun e => by injection e with e; omega) (fun b hb e => by injection e with e; have := hb.2; omega))
  have HR6 := Lib.hid (goesBx.grown HR4.out hg6 (fun b e => by omega))
  have HB6 : Hid (Below w.heap.size w w6) := Below.grown1 HB4.out hg6 HB4.out.size (by omega)
  have HT6 := Lib.hid (goesTb.grown HT1.out hg6 (fun b hb => by have := HZ3.out; omega))
  have HL6 := Lib.hid (goesArr.grown HL1.out hg6 (fun b hb => by have := HZ3.out; omega))
  have HZ6 := Lib.hid (Nat.le_trans hz4 hg6.size)
  clear hg6 HT1 HL1 HA4 HR4 HM4 HB4
  have HPL6 := Lib.hid (HPL.out.after HB6.out)
  go_wp2_with fail
  refine (columns_any (keys := false) HA6.out (fun b hb => by have := hb.2; omega) HPL6.out).mono ?_
  rintro e w7 ⟨t2, l2, a2, c2, d2, rfl, htr2, ha7, hg7, hti2⟩
  obtain ⟨s2, hs2⟩ : ∃ s2, s2 = gR (colsR false) s1 := ⟨_, rfl⟩
  rw [← hs2] at ha7
  have HEND := Lib.hid (end_fin (meta_R HS1.out HTI1.out hs2 hti2).1 (meta_R HS1.out HTI1.out hs2 hti2).2 nzMeta)
  have HT2 := Lib.hid htr2.tb
  have HR7 := Lib.hid (goesBx.grown HR6.out hg7 (fun b e => by omega))
  have HM7 := Lib.hid (goesBx.grown HM6.out hg7 (fun b e => by omega))
  have HA7 := Lib.hid ha7
  have HB7 : Hid (Below w.heap.size w w7) := Below.grown1 HB6.out hg7 HB6.out.size (by omega)
  have HT7 := Lib.hid (goesTb.grown HT6.out hg7 (fun b hb => by have := HZ3.out; omega))
  have HL7 := Lib.hid (goesArr.grown HL6.out hg7 (fun b hb => by have := HZ3.out; omega))
  clear hs2 hti2 htr2 ha7 hg7 HT6 HL6 HA6 HR6 HM6 HB6
  have hml7 := HM7.out.lt
  go_upto_region 5 with (first | (refine wpList_storeB HM7.out (by rfl) 29 _ _ (by rfl) 7 (tabV t2 c2 d2 Pl3.none) (by rfl) (by rfl) (by kernel_rfl) (by show 7 + 6 ≤ 13; decide) (by rfl) ?_; intro w8 hx8 hg8))
  have HM8 : Hid (Bx (fun b => b = w.heap.size + 1 + 1) w8 (w.heap.size + 1 + 1) (metaV t1 t2 a c1 d1 Pl3.none c2 d2 Pl3.none)) := hx8
  have HA8 := Lib.hid (HA7.out.grown hg8 (fun e => by injection e with e; omega) (fun b hb e => by injection e with e; have := hb.2; omega))
  have HR8 := Lib.hid (goesBx.grown HR7.out hg8 (fun b e => by omega))
  have HB8 : Hid (Below w.heap.size w w8) := Below.grown1 HB7.out hg8 HB7.out.size (by omega)
  have HT8 := Lib.hid (goesTb.grown HT7.out hg8 (fun b hb => by have := HZ3.out; omega))
  have HL8 := Lib.hid (goesArr.grown HL7.out hg8 (fun b hb => by have := HZ3.out; omega))
  have HU8 := Lib.hid (goesTb.grown HT2.out hg8 (fun b hb => by have := HZ3.out; have := HZ6.out; omega))
  clear hx8 hg8 HT7 HL7 HA7 HR7 HM7 HB7 HT2
  obtain ⟨eN, heN⟩ : ∃ eN, eN = endE s2 := ⟨_, rfl⟩
  rw [← heN] at HEND
  go_wp2_with fail
  refine (tend_any HA8.out (fun b hb => by have := hb.2; omega)).mono ?_
  rintro e9 w9 ⟨rfl, _, hg9⟩
  rw [← heN]
  clear heN
  have HR9 := Lib.hid (goesBx.grown HR8.out hg9 (fun b e => by omega))
  have HM9 := Lib.hid (goesBx.grown HM8.out hg9 (fun b e => by omega))
  have HB9 : Hid (Below w.heap.size w w9) := Below.grown1 HB8.out hg9 HB8.out.size (by omega)
  have HT9 := Lib.hid (goesTb.grown HT8.out hg9 (fun b hb => by have := HZ3.out; omega))
  have HL9 := Lib.hid (goesArr.grown HL8.out hg9 (fun b hb => by have := HZ3.out; omega))
  have HU9 := Lib.hid (goesTb.grown HU8.out hg9 (fun b hb => by have := HZ3.out; have := HZ6.out; omega))
  clear hg9 HT8 HL8 HU8 HA8 HR8 HM8 HB8
  have hrl9 := HR9.out.lt
  rcases HEND.out with hE | hE
  · obtain ⟨hne, hE2⟩ := hE
    have HE2 : Hid (getMeta bs = .error eN) := hE2
    clear hE2
    go_wp2_with (first | (refine wpList_built (by rfl) 46 _ (by rfl) zM.toArray (by kernel_rfl) ?_) | (refine wpList_storeB HR9.out (by rfl) 46 _ _ (by rfl) 0 zM (by rfl) (by rfl) (by kernel_rfl) (by show 0 + 13 ≤ 13; decide) (by rfl) ?_; intro wz hxz hgz; have HXZ := Lib.hid hxz; have HGZ := Lib.hid hgz; clear hxz hgz))
    refine bodyPost_ret (results_box (vs := zM) rfl HXZ.out (by rfl) (by rfl) _ Tryd.underlying46 rfl (by kernel_rfl)) rfl ?_
    rw [HE2.out]
    exact ⟨Pl3.none, Pl3.none, Pl3.none, Pl3.none, Pl3.none, rfl, Arr.nil, TbR.none, TbR.none, Below.grown1 HB9.out HGZ.out HB9.out.size (by omega)⟩
  · obtain ⟨h0, hE2⟩ := hE
    have HE2 : Hid (getMeta bs = .ok (l, t1, t2)) := hE2
    clear hE2
    go_wp2_with (first | (refine wpList_loadB HM9.out (by rfl) 46 _ (by rfl) (by rfl) _ Tryd.underlying46 rfl (by kernel_rfl) ?_) | (refine wpList_storeB HR9.out (by rfl) 46 _ _ (by rfl) 0 (metaV t1 t2 a c1 d1 Pl3.none c2 d2 Pl3.none) (by rfl) (by rfl) (by kernel_rfl) (by show 0 + 13 ≤ 13; decide) (by rfl) ?_; intro wz hxz hgz; have HXZ := Lib.hid hxz; have HGZ := Lib.hid hgz; clear hxz hgz))
    refine bodyPost_ret (results_box (vs := metaV t1 t2 a c1 d1 Pl3.none c2 d2 Pl3.none) rfl HXZ.out (by rfl) (by rfl) _ Tryd.underlying46 rfl (by kernel_rfl)) rfl ?_
    rw [HE2.out]
    have hz := HZ3.out
    have hz6 := HZ6.out
    refine ⟨a, c1, d1, c2, d2, rfl, goesArr.mono (goesArr.grown HL9.out HGZ.out (fun b hb => by omega)) (fun b hb _ => by omega), goesTb.mono (goesTb.grown HT9.out HGZ.out (fun b hb => by omega)) (fun b hb _ => by omega), goesTb.mono (goesTb.grown HU9.out HGZ.out (fun b hb => by omega)) (fun b hb _ => by omega), Below.grown1 HB9.out HGZ.out HB9.out.size (by omega)⟩
end Go.Proofs.Sb
