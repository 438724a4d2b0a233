/- What holds along request.reader's run. No conditions. (written by gen_rqrun.py) -/
import Derived.Test.YtdgmkmadlnmhbaaRqt
set_option linter.unusedVariables false
set_option linter.unusedSimpArgs false
namespace Sb
theorem gR_must {α : Type} {g : B → Res α} {ok : Bool} {e : Int} (s : Wr) : gR (fun b => if ok = false then .error e else g b) s = gR g (mustR ok e s) := by
  cases s with
  | error e => rfl
  | ok cur => cases ok <;> simp [gR, mustR]
theorem tie_must {α : Type} {g : B → Res α} {ok : Bool} {e : Int} {s : Wr} {x : α} (h : Tie g (mustR ok e s) x) : Tie (fun b => if ok = false then .error e else g b) s x := by
  intro cur y rest h1 h2
  subst h1
  cases ok with
  | false => simp at h2
  | true => exact h cur y rest rfl (by simpa using h2)
theorem tie_bindT {α β : Type} {g : B → Res α} {f : α → B → Res β} {s : Wr} {a : α} {x : β} (ha : Tie g s a) (h : Tie (f a) (gR g s) x) : Tie (fun b => bindR (g b) f) s x := by
  intro cur y rest h1 h2
  subst h1
  cases hq : g cur with
  | error e => simp only [bindR_err hq] at h2; cases h2
  | ok p =>
    obtain ⟨b, r⟩ := p
    simp only [bindR_ok hq] at h2
    obtain rfl := ha cur b r rfl hq
    rw [gR_ok hq] at h
    exact h r y rest rfl h2
/-- the state behind a reading does not hang on what is made of its value -/
theorem gR_bindT {α β : Type} {g : B → Res α} {f : α → B → Res β} {s : Wr} {a : α} (ha : Tie g s a) : gR (fun b => bindR (g b) f) s = gR (f a) (gR g s) := by
  cases s with
  | error e => rfl
  | ok cur =>
    cases hq : g cur with
    | error e => rw [gR_err hq, gR_err (bindR_err hq)]; rfl
    | ok p =>
      obtain ⟨x, r⟩ := p
      obtain rfl := ha cur x r rfl hq
      rw [gR_ok hq]
      have e := bindR_ok (f := f) hq
      simp only [gR, e]
theorem opt_t {α : Type} {g : B → Res α} {b : Bool} {d : α} {s : Wr} (h : (okB s && b) = true) : gR (optR b d g) s = gR g s ∧ gV d (optR b d g) s = gV d g s := by
  rw [Bool.and_eq_true] at h
  rw [h.2]
  exact ⟨rfl, rfl⟩
theorem opt_f {α : Type} {g : B → Res α} {b : Bool} {d : α} {s : Wr} (h : (okB s && b) = false) : gR (optR b d g) s = s ∧ gV d (optR b d g) s = d := by
  cases s with
  | error e => exact ⟨rfl, rfl⟩
  | ok cur =>
    have : b = false := by simpa [okB] using h
    subst this
    exact ⟨rfl, rfl⟩
theorem num_R (s : Wr) : gR getNum s = gR (getN 4) s ∧ gV 0 getNum s = sgn 4 (gV 0 (getN 4) s) := by
  cases s with
  | error e => exact ⟨rfl, by simp [gV, sgn]⟩
  | ok cur =>
    cases h : getN 4 cur with
    | error e =>
      have e1 : getNum cur = .error e := by unfold getNum; rw [h]
      exact ⟨by rw [gR_err h, gR_err e1], by rw [gV_ok h, gV_ok e1]; simp [rval, sgn]⟩
    | ok p =>
      obtain ⟨x, r⟩ := p
      have e1 : getNum cur = .ok (sgn 4 x, r) := by unfold getNum; rw [h]
      exact ⟨by rw [gR_ok h, gR_ok e1], by rw [gV_ok h, gV_ok e1]; rfl⟩
theorem i8_R (s : Wr) : gR getI8 s = gR (getN 8) s ∧ gV 0 getI8 s = sgn 8 (gV 0 (getN 8) s) := by
  cases s with
  | error e => exact ⟨rfl, by simp [gV, sgn]⟩
  | ok cur =>
    cases h : getN 8 cur with
    | error e =>
      have e1 : getI8 cur = .error e := bindR_err h
      exact ⟨by rw [gR_err h, gR_err e1], by rw [gV_ok h, gV_ok e1]; simp [rval, sgn]⟩
    | ok p =>
      obtain ⟨x, r⟩ := p
      have e1 : getI8 cur = .ok (sgn 8 x, r) := bindR_ok h
      exact ⟨by rw [gR_ok h, gR_ok e1], by rw [gV_ok h, gV_ok e1]; rfl⟩
theorem okB_gR {α : Type} {g : B → Res α} {s : Wr} {r : B} (h : gR g s = .ok r) : okB s = true := by
  cases s with
  | error e => cases h
  | ok cur => rfl
theorem okB_must {ok : Bool} {e : Int} {s : Wr} {r : B} (h : mustR ok e s = .ok r) : okB s = true := by
  cases s with
  | error e => cases h
  | ok cur => rfl
/-- values of a run, if there are any -/
theorem vals_f {f : Nat} {s : Wr} (h : (okB s && bitB f 0) = false) : gR (valsR f) s = s ∧ Tie (valsR f) s [] := by
  have h1 := opt_f (g := fun b => bindR (getVals (bitB f 6) b) fun l r => if l.length = 0 then .error 11 else .ok (l, r)) (d := ([] : List (B × Val))) h
  refine ⟨h1.1, fun cur y rest h2 h3 => ?_⟩
  have : gV [] (valsR f) s = [] := h1.2
  rw [h2, gV_ok h3] at this
  exact this.symm
theorem vals_t {f : Nat} {s : Wr} {l : List (B × Val)} (h : (okB s && bitB f 0) = true) (hl : Tie (getVals (bitB f 6)) s l) : gR (valsR f) s = mustR (decide (0 < l.length)) 11 (gR (getVals (bitB f 6)) s) ∧ Tie (valsR f) s l := by
  rw [Bool.and_eq_true] at h
  have e : valsR f = fun b => bindR (getVals (bitB f 6) b) fun l r => if l.length = 0 then .error 11 else .ok (l, r) := by
    funext b
    unfold valsR optR
    rw [if_pos h.2]
  rw [e]
  constructor
  · rw [gR_bindT hl]
    cases gR (getVals (bitB f 6)) s with
    | error e => rfl
    | ok cur =>
      by_cases h0 : l.length = 0
      · simp [gR, mustR, h0]
      · have h9 : 0 < l.length := by omega
        simp [gR, mustR, h0, h9]
  · refine tie_bindT hl fun cur y rest h1 h2 => ?_
    split at h2
    · cases h2
    · injection h2 with h2; injection h2 with h2
end Sb
namespace Go.Proofs.Sb
open Go.RowKit _root_.Sb

def parV (p : Par) (A1 : Option Addr) (n1 c1 : Nat) (A2 : Option Addr) (n2 c2 : Nat) (A3 : Option Addr) (n3 c3 : Nat) : List Value := [.int .u16 (p.cons : Int), .slice A1 n1 c1, .slice A2 n2 c2, .bool p.skip, .bool p.paged, .int .i32 p.page, .bool p.resumed, .int .i64 p.state.kind, .slice A3 n3 c3, .bool p.serially, .int .u16 (p.serial : Int), .bool p.timed, .int .i64 p.time]
/-- what a run's rows read as -/
structure ParR (S : Nat → Prop) (w : World) (A1 : Option Addr) (n1 c1 : Nat) (A2 : Option Addr) (n2 c2 : Nat) (A3 : Option Addr) (n3 c3 : Nat) (lv : List Val) (ln : List B) (bs : B) : Prop where
  values : Arr 2 (valP S w) S w A1 n1 c1 lv
  names : Arr 1 strP S w A2 n2 c2 ln
  state : Sl S w A3 n3 c3 bs
theorem goesArrV {A : Option Addr} {n c : Nat} {l : List Val} : Goes fun S w => Arr 2 (valP S w) S w A n c l :=
  ⟨fun h hs hk => (goesArr.keep h hs hk).imp fun x _ v hp => (goesVal x v).keep hp hs hk, fun h hS => (goesArr.mono h hS).imp fun x _ v hp => (goesVal x v).mono hp hS⟩
theorem goesPar {A1 : Option Addr} {n1 c1 : Nat} {A2 : Option Addr} {n2 c2 : Nat} {A3 : Option Addr} {n3 c3 : Nat} {lv : List Val} {ln : List B} {bs : B} : Goes fun S w => ParR S w A1 n1 c1 A2 n2 c2 A3 n3 c3 lv ln bs :=
  ⟨fun h hs hk => ⟨goesArrV.keep h.1 hs hk, goesArr.keep h.2 hs hk, goesSl.keep h.3 hs hk⟩, fun h hS => ⟨goesArrV.mono h.1 hS, goesArr.mono h.2 hS, goesSl.mono h.3 hS⟩⟩
def zeroP : List Value := [.int .u16 0, .slice none 0 0, .slice none 0 0, .bool false, .bool false, .int .i32 0, .bool false, .int .i64 0, .slice none 0 0, .bool false, .int .u16 0, .bool false, .int .i64 0]
/-- what holds along the walk: the reader X, the run's box P, the result's box R, the cells that the closure reads -/
structure RunI (S : Nat → Prop) (w : World) (X P R PR PF f : Nat) (s : Wr) (vs : List Value) (A1 : Option Addr) (n1 c1 : Nat) (A2 : Option Addr) (n2 c2 : Nat) (A3 : Option Addr) (n3 c3 : Nat) (lv : List Val) (ln : List B) (bs : B) (wx : World) : Prop where
  rd : RdAt (fun b => S b ∧ b < w.heap.size) wx X s
  box : Bx (fun b => b = P) wx P vs
  res : Bx (fun b => b = R) wx R zeroP
  pr : wx.cell? ⟨PR, 0, none⟩ = some (.pointer (some ⟨X, 0, none⟩))
  pf : wx.cell? ⟨PF, 0, none⟩ = some (.int .u8 (f : Int))
  gr : w.grownBy wx (some X)
  par : ParR (fun b => w.heap.size ≤ b ∧ b ≠ P ∧ b ≠ R) wx A1 n1 c1 A2 n2 c2 A3 n3 c3 lv ln bs
section
variable {S : Nat → Prop} {w : World} {X P R PR PF f : Nat} {s s' : Wr} {vs : List Value} {A1 : Option Addr} {n1 c1 : Nat} {A2 : Option Addr} {n2 c2 : Nat} {A3 : Option Addr} {n3 c3 : Nat} {lv : List Val} {ln : List B} {bs : B} {wx w' : World}
theorem gcX {w w' : World} {X : Nat} (hg : w.grownBy w' (some X)) {b o : Nat} {v : Value} (hb : b ≠ X) (hc : w.cell? ⟨b, o, none⟩ = some v) : w'.cell? ⟨b, o, none⟩ = some v :=
  (World.cell?_of_block (hg.block b (World.block_lt_of_cell? w ⟨b, o, none⟩ hc) fun e => hb (by injection e))).trans hc
/-- behind a call that turns the reader alone -/
theorem RunI.step (h : RunI S w X P R PR PF f s vs A1 n1 c1 A2 n2 c2 A3 n3 c3 lv ln bs wx) (hX : X < w.heap.size) (hP : P ≠ X) (hR : R ≠ X) (h1 : PR ≠ X) (h2 : PF ≠ X) (hr : RdAt (fun b => S b ∧ b < w.heap.size) w' X s') (hg : wx.grownBy w' (some X)) : RunI S w X P R PR PF f s' vs A1 n1 c1 A2 n2 c2 A3 n3 c3 lv ln bs w' :=
  ⟨hr, goesBx.grown h.box hg (fun b e => e ▸ hP), goesBx.grown h.res hg (fun b e => e ▸ hR), gcX hg h1 h.pr, gcX hg h2 h.pf, grow_seq h.gr hg fun j e => .inr e, goesPar.grown h.par hg (fun b hb e => by have := hb.1; omega)⟩
/-- behind a store into the run's box -/
theorem RunI.put (h : RunI S w X P R PR PF f s vs A1 n1 c1 A2 n2 c2 A3 n3 c3 lv ln bs wx) (hX : P ≠ X) (hP : w.heap.size ≤ P) (hR : R ≠ P) (h1 : PR ≠ P) (h2 : PF ≠ P) (i : Nat) (u : Value) (hi : i < vs.length) : RunI S w X P R PR PF f s (vs.set i u) A1 n1 c1 A2 n2 c2 A3 n3 c3 lv ln bs (wx.setCell ⟨P, i, none⟩ u) :=
  have hg := grow_setCell wx P i u
  ⟨h.rd.grown hg (fun e => hX (by injection e)) (fun b hb e => by injection e with e; have := hb.2; omega), h.box.put i u hi, goesBx.grown h.res hg (fun b e => e ▸ hR), gcX hg h1 h.pr, gcX hg h2 h.pf, grow_seq h.gr hg fun j e => by injection e with e; left; omega, goesPar.grown h.par hg (fun b hb => hb.2.1)⟩
end
end Go.Proofs.Sb
