/- What holds along request.reader's run. No conditions. (written by gen_rqrun.py) -/
import Derived.Test.YtdgmkmadlnmhbaaRqs
import Derived.Test.YtdgmkmadlnmhbaaBoxl
set_option linter.unusedVariables false
set_option linter.unusedSimpArgs false
namespace Sb
theorem gR_must {α : Type} {g : B → Res α} {ok : Bool} {e : Int} (s : Wr) : gR (fun b => if ok = false then .error e else g b) s = gR g (mustR ok e s) := by
  cases s with
  | error e => rfl
  | ok cur => cases ok <;> simp [gR, mustR]
theorem tie_must {α : Type} {g : B → Res α} {ok : Bool} {e : Int} {s : Wr} {x : α} (h : Tie g (mustR ok e s) x) : Tie (fun b => if ok = false then .error e else g b) s x := by
  intro cur y rest h1 h2
  subst h1
  cases ok with
  | false => simp at h2
  | true => exact h cur y rest rfl (by simpa using h2)
theorem tie_bindT {α β : Type} {g : B → Res α} {f : α → B → Res β} {s : Wr} {a : α} {x : β} (ha : Tie g s a) (h : Tie (f a) (gR g s) x) : Tie (fun b => bindR (g b) f) s x := by
  intro cur y rest h1 h2
  subst h1
  cases hq : g cur with
  | error e => simp only [bindR_err hq] at h2; cases h2
  | ok p =>
    obtain ⟨b, r⟩ := p
    simp only [bindR_ok hq] at h2
    obtain rfl := ha cur b r rfl hq
    rw [gR_ok hq] at h
    exact h r y rest rfl h2
/-- the state behind a reading does not hang on what is made of its value -/
theorem gR_bindT {α β : Type} {g : B → Res α} {f : α → B → Res β} {s : Wr} {a : α} (ha : Tie g s a) : gR (fun b => bindR (g b) f) s = gR (f a) (gR g s) := by
  cases s with
  | error e => rfl
  | ok cur =>
    cases hq : g cur with
    | error e => rw [gR_err hq, gR_err (bindR_err hq)]; rfl
    | ok p =>
      obtain ⟨x, r⟩ := p
      obtain rfl := ha cur x r rfl hq
      rw [gR_ok hq]
      have e := bindR_ok (f := f) hq
      simp only [gR, e]
theorem opt_t {α : Type} {g : B → Res α} {b : Bool} {d : α} {s : Wr} (h : (okB s && b) = true) : gR (optR b d g) s = gR g s ∧ gV d (optR b d g) s = gV d g s := by
  rw [Bool.and_eq_true] at h
  rw [h.2]
  exact ⟨rfl, rfl⟩
theorem opt_f {α : Type} {g : B → Res α} {b : Bool} {d : α} {s : Wr} (h : (okB s && b) = false) : gR (optR b d g) s = s ∧ gV d (optR b d g) s = d := by
  cases s with
  | error e => exact ⟨rfl, rfl⟩
  | ok cur =>
    have : b = false := by simpa [okB] using h
    subst this
    exact ⟨rfl, rfl⟩
theorem num_R (s : Wr) : gR getNum s = gR (getN 4) s ∧ gV 0 getNum s = sgn 4 (gV 0 (getN 4) s) := by
  cases s with
  | error e => exact ⟨rfl, by simp [gV, sgn]⟩
  | ok cur =>
    cases h : getN 4 cur with
    | error e =>
      have e1 : getNum cur = .error e := by unfold getNum; rw [h]
      exact ⟨by rw [gR_err h, gR_err e1], by rw [gV_ok h, gV_ok e1]; simp [rval, sgn]⟩
    | ok p =>
      obtain ⟨x, r⟩ := p
      have e1 : getNum cur = .ok (sgn 4 x, r) := by unfold getNum; rw [h]
      exact ⟨by rw [gR_ok h, gR_ok e1], by rw [gV_ok h, gV_ok e1]; rfl⟩
theorem i8_R (s : Wr) : gR getI8 s = gR (getN 8) s ∧ gV 0 getI8 s = sgn 8 (gV 0 (getN 8) s) := by
  cases s with
  | error e => exact ⟨rfl, by simp [gV, sgn]⟩
  | ok cur =>
    cases h : getN 8 cur with
    | error e =>
      have e1 : getI8 cur = .error e := bindR_err h
      exact ⟨by rw [gR_err h, gR_err e1], by rw [gV_ok h, gV_ok e1]; simp [rval, sgn]⟩
    | ok p =>
      obtain ⟨x, r⟩ := p
      have e1 : getI8 cur = .ok (sgn 8 x, r) := bindR_ok h
      exact ⟨by rw [gR_ok h, gR_ok e1], by rw [gV_ok h, gV_ok e1]; rfl⟩
theorem okB_gR {α : Type} {g : B → Res α} {s : Wr} {r : B} (h : gR g s = .ok r) : okB s = true := by
  cases s with
  | error e => cases h
  | ok cur => rfl
theorem okB_must {ok : Bool} {e : Int} {s : Wr} {r : B} (h : mustR ok e s = .ok r) : okB s = true := by
  cases s with
  | error e => cases h
  | ok cur => rfl
/-- values of a run, if there are any -/
theorem vals_f {f : Nat} {s : Wr} (h : (okB s && bitB f 0) = false) : gR (valsR f) s = s ∧ Tie (valsR f) s [] := by
  have h1 := opt_f (g := fun b => bindR (getVals (bitB f 6) b) fun l r => if l.length = 0 then .error 11 else .ok (l, r)) (d := ([] : List (B × Val))) h
  refine ⟨h1.1, fun cur y rest h2 h3 => ?_⟩
  have : gV [] (valsR f) s = [] := h1.2
  rw [h2, gV_ok h3] at this
  exact this.symm
theorem vals_t {f : Nat} {s : Wr} {l : List (B × Val)} (h : (okB s && bitB f 0) = true) (hl : Tie (getVals (bitB f 6)) s l) : gR (valsR f) s = mustR (decide (0 < l.length)) 11 (gR (getVals (bitB f 6)) s) ∧ Tie (valsR f) s l := by
  rw [Bool.and_eq_true] at h
  have e : valsR f = fun b => bindR (getVals (bitB f 6) b) fun l r => if l.length = 0 then .error 11 else .ok (l, r) := by
    funext b
    unfold valsR optR
    rw [if_pos h.2]
  rw [e]
  constructor
  · rw [gR_bindT hl]
    cases gR (getVals (bitB f 6)) s with
    | error e => rfl
    | ok cur =>
      by_cases h0 : l.length = 0
      · simp [gR, mustR, h0]
      · have h9 : 0 < l.length := by omega
        simp [gR, mustR, h0, h9]
  · refine tie_bindT hl fun cur y rest h1 h2 => ?_
    split at h2
    · cases h2
    · injection h2 with h2; injection h2 with h2
end Sb
namespace Go.Proofs.Sb
open Go.RowKit _root_.Sb

def parV (p : Par) (A1 : Option Addr) (n1 c1 : Nat) (A2 : Option Addr) (n2 c2 : Nat) (A3 : Option Addr) (n3 c3 : Nat) : List Value := [.int .u16 (p.cons : Int), .slice A1 n1 c1, .slice A2 n2 c2, .bool p.skip, .bool p.paged, .int .i32 p.page, .bool p.resumed, .int .i64 p.state.kind, .slice A3 n3 c3, .bool p.serially, .int .u16 (p.serial : Int), .bool p.timed, .int .i64 p.time]
/-- what a run's rows read as -/
structure ParR (S : Nat → Prop) (w : World) (A1 : Option Addr) (n1 c1 : Nat) (A2 : Option Addr) (n2 c2 : Nat) (A3 : Option Addr) (n3 c3 : Nat) (lv : List Val) (ln : List B) (bs : B) : Prop where
  values : Arr 2 (valP S w) S w A1 n1 c1 lv
  names : Arr 1 strP S w A2 n2 c2 ln
  state : Sl S w A3 n3 c3 bs
theorem goesArrV {A : Option Addr} {n c : Nat} {l : List Val} : Goes fun S w => Arr 2 (valP S w) S w A n c l :=
  ⟨fun h hs hk => (goesArr.keep h hs hk).imp fun x _ v hp => (goesVal x v).keep hp hs hk, fun h hS => (goesArr.mono h hS).imp fun x _ v hp => (goesVal x v).mono hp hS⟩
theorem goesPar {A1 : Option Addr} {n1 c1 : Nat} {A2 : Option Addr} {n2 c2 : Nat} {A3 : Option Addr} {n3 c3 : Nat} {lv : List Val} {ln : List B} {bs : B} : Goes fun S w => ParR S w A1 n1 c1 A2 n2 c2 A3 n3 c3 lv ln bs :=
  ⟨fun h hs hk => ⟨goesArrV.keep h.1 hs hk, goesArr.keep h.2 hs hk, goesSl.keep h.3 hs hk⟩, fun h hS => ⟨goesArrV.mono h.1 hS, goesArr.mono h.2 hS, goesSl.mono h.3 hS⟩⟩
def zeroP : List Value := [.int .u16 0, .slice none 0 0, .slice none 0 0, .bool false, .bool false, .int .i32 0, .bool false, .int .i64 0, .slice none 0 0, .bool false, .int .u16 0, .bool false, .int .i64 0]
/-- what holds along the walk: the reader X, the run's box P, the result's box R, the cells that the closure reads -/
structure RunI (S : Nat → Prop) (w : World) (X P R PR PF f : Nat) (s : Wr) (vs : List Value) (A1 : Option Addr) (n1 c1 : Nat) (A2 : Option Addr) (n2 c2 : Nat) (A3 : Option Addr) (n3 c3 : Nat) (lv : List Val) (ln : List B) (bs : B) (wx : World) : Prop where
  rd : RdAt (fun b => S b ∧ b < w.heap.size) wx X s
  box : Bx (fun b => b = P) wx P vs
  res : Bx (fun b => b = R) wx R zeroP
  pr : wx.cell? ⟨PR, 0, none⟩ = some (.pointer (some ⟨X, 0, none⟩))
  pf : wx.cell? ⟨PF, 0, none⟩ = some (.int .u8 (f : Int))
  gr : w.grownBy wx (some X)
  par : ParR (fun b => w.heap.size ≤ b ∧ b ≠ P ∧ b ≠ R) wx A1 n1 c1 A2 n2 c2 A3 n3 c3 lv ln bs
section
variable {S : Nat → Prop} {w : World} {X P R PR PF f : Nat} {s s' : Wr} {vs : List Value} {A1 : Option Addr} {n1 c1 : Nat} {A2 : Option Addr} {n2 c2 : Nat} {A3 : Option Addr} {n3 c3 : Nat} {lv : List Val} {ln : List B} {bs : B} {wx w' : World}
theorem gcX {w w' : World} {X : Nat} (hg : w.grownBy w' (some X)) {b o : Nat} {v : Value} (hb : b ≠ X) (hc : w.cell? ⟨b, o, none⟩ = some v) : w'.cell? ⟨b, o, none⟩ = some v :=
  (World.cell?_of_block (hg.block b (World.block_lt_of_cell? w ⟨b, o, none⟩ hc) fun e => hb (by injection e))).trans hc
/-- behind a call that turns the reader alone -/
theorem RunI.step (h : RunI S w X P R PR PF f s vs A1 n1 c1 A2 n2 c2 A3 n3 c3 lv ln bs wx) (hX : X < w.heap.size) (hP : P ≠ X) (hR : R ≠ X) (h1 : PR ≠ X) (h2 : PF ≠ X) (hr : RdAt (fun b => S b ∧ b < w.heap.size) w' X s') (hg : wx.grownBy w' (some X)) : RunI S w X P R PR PF f s' vs A1 n1 c1 A2 n2 c2 A3 n3 c3 lv ln bs w' :=
  ⟨hr, goesBx.grown h.box hg (fun b e => e ▸ hP), goesBx.grown h.res hg (fun b e => e ▸ hR), gcX hg h1 h.pr, gcX hg h2 h.pf, grow_seq h.gr hg fun j e => .inr e, goesPar.grown h.par hg (fun b hb e => by have := hb.1; omega)⟩
/-- behind a store into the run's box -/
theorem RunI.put (h : RunI S w X P R PR PF f s vs A1 n1 c1 A2 n2 c2 A3 n3 c3 lv ln bs wx) (hX : P ≠ X) (hP : w.heap.size ≤ P) (hR : R ≠ P) (h1 : PR ≠ P) (h2 : PF ≠ P) (i : Nat) (u : Value) (hi : i < vs.length) : RunI S w X P R PR PF f s (vs.set i u) A1 n1 c1 A2 n2 c2 A3 n3 c3 lv ln bs (wx.setCell ⟨P, i, none⟩ u) :=
  have hg := grow_setCell wx P i u
  ⟨h.rd.grown hg (fun e => hX (by injection e)) (fun b hb e => by injection e with e; have := hb.2; omega), h.box.put i u hi, goesBx.grown h.res hg (fun b e => e ▸ hR), gcX hg h1 h.pr, gcX hg h2 h.pf, grow_seq h.gr hg fun j e => by injection e with e; left; omega, goesPar.grown h.par hg (fun b hb => hb.2.1)⟩
end
end Go.Proofs.Sb

/- The writer of request: words for what it owns; put, number, count, short, must. Conditions: sums of lengths up to 2^47. (written by gen_rqput.py) -/
namespace Sb
theorem bothQ_nil (s : Wr) : bothW s (.ok []) = s := by cases s <;> simp [bothW]
theorem bothW_err {s : Wr} {e : Int} (h : s = .error e) (r : Wr) : bothW s r = .error e := by subst h; rfl
theorem bothW_assoc (a b c : Wr) : bothW (bothW a b) c = bothW a (bothW b c) := by cases a <;> cases b <;> cases c <;> simp [bothW]
def lenW : Wr → Nat | .ok b => b.length | .error _ => 0
theorem lenW_both (s r : Wr) : lenW (bothW s r) ≤ lenW s + lenW r := by cases s <;> cases r <;> simp [bothW, lenW]
theorem lenW_val (r : Wr) : (wval r).length = lenW r := by cases r <;> rfl
/-- how many there are, as a short -/
def cntQ (n : Nat) : Wr := if 65535 < n then .error 12 else .ok (enc 2 n)
def mustQ (is : Bool) : Wr := if is then .ok [] else .error 1
theorem cnt_len (n : Nat) : lenW (cntQ n) ≤ 2 := by unfold cntQ; split <;> simp [lenW, enc_length]
theorem must_len (b : Bool) : lenW (mustQ b) = 0 := by cases b <;> rfl
end Sb
namespace Go.Proofs.Sb
open Go.RowKit _root_.Sb

/-- the writer's box Y and its row, in blocks of T, in state s -/
structure WrAt (T : Nat → Prop) (w : World) (Y : Nat) (s : Wr) : Prop where
  mem : T Y
  lt : ∀ b, T b → b < w.heap.size
  ex : ∃ A n c bs, OwnB T w A n c bs ∧ Bx T w Y [.slice A n c, .int .i64 (werr s)] ∧ (∀ b, A.map (·.block) = some b → b ≠ Y) ∧ (∀ b, s = .ok b → bs = b) ∧ (∀ e, s = .error e → e ≠ 0)
/-- how far a walk has come from the world W on, where the writer owned T: it owns T' now -/
structure WS (W : World) (T : Nat → Prop) (w : World) (Y : Nat) (s : Wr) (T' : Nat → Prop) : Prop where
  at' : WrAt T' w Y s
  fr : Fr T W w
  own : ∀ b, T' b → T b ∨ W.heap.size ≤ b
section
variable {W w w' : World} {T T' T2 : Nat → Prop} {Y : Nat} {s s' : Wr}
theorem WrAt.after (h : WrAt T w Y s) (hb : Below w.heap.size w w') : WrAt T w' Y s := by
  obtain ⟨A, n, c, bs, h1, h2, h3, h4, h5⟩ := h.ex
  exact ⟨h.mem, fun b hb2 => Nat.lt_of_lt_of_le (h.lt b hb2) hb.size, A, n, c, bs, h1.after hb, h2.after hb, h3, h4, h5⟩
theorem WS.refl (h : WrAt T w Y s) : WS w T w Y s T := ⟨h, .refl _ _, fun b h => .inl h⟩
theorem WS.trans (h : WS W T w Y s T') (k : WS w T' w' Y s' T2) : WS W T w' Y s' T2 :=
  ⟨k.at', h.fr.seq k.fr fun x hx hT => by rcases h.own x hT with h1 | h1; exact h1; omega, fun b hb => by
    rcases k.own b hb with h1 | h1
    · exact h.own b h1
    · have := h.fr.size; right; omega⟩
theorem WS.after (h : WS W T w Y s T') (hb : Below w.heap.size w w') : WS W T w' Y s T' :=
  ⟨h.at'.after hb, h.fr.seq (.of_below hb) fun x hx hT => by rcases h.own x hT with h1 | h1; exact h1; omega, h.own⟩
theorem WS.size (h : WS W T w Y s T') : W.heap.size ≤ w.heap.size := h.fr.size
/-- what was read before is read -/
theorem WS.keep {F : (Nat → Prop) → World → Prop} (h : WS W T w Y s T') (G : Goes F) {S : Nat → Prop} (hF : F S W) (hS : ∀ b, S b → ¬ T b) : F S w := G.keep hF h.fr.size fun b hs hb => h.fr.block b hb (hS b hs)
/-- a step behind a call of a method of the writer -/
theorem WS.kept {F : (Nat → Prop) → World → Prop} (k : WS w T' w' Y s' T2) (G : Goes F) {S : Nat → Prop} (hF : F S w) (hS : ∀ b, S b → ¬ T' b) : F S w' := k.keep G hF hS
theorem WS.not (h : WS W T w Y s T') {b : Nat} (hb : b < W.heap.size) (hT : ¬ T b) : ¬ T' b := fun e => by rcases h.own b e with h1 | h1; exact hT h1; omega
theorem WS.lt (h : WS W T w Y s T') {b : Nat} (hb : T' b) : b < w.heap.size := h.at'.lt b hb
theorem WS.as (h : WS W T w Y s T') (e : s = s') : WS W T w Y s' T' := e ▸ h
theorem WS.ne (h : WS W T w Y s T') {b : Nat} (hb : w.heap.size ≤ b) : ¬ T' b := fun e => by have := h.lt e; omega
end

set_option maxHeartbeats 8000000 in
set_option maxRecDepth 100000 in
theorem wput_any {S T : Nat → Prop} {w : World} {Y : Nat} {s : Wr} {A2 : Option Addr} {n2 c2 : Nat} {cs : B} {e : Int} (h : WrAt T w Y s) (hs : Sl S w A2 n2 c2 cs) (r : Wr) (hr : e = werr r) (hv : ∀ b, r = .ok b → cs = b) (hne : ∀ x, r = .error x → x ≠ 0) (hl : lenW s + cs.length ≤ 140737488355328) :
    Calls Try.prog 17 #[.pointer (some ⟨Y, 0, none⟩), .slice A2 n2 c2, .int .i64 e] w fun e w' => e = .returned (.tuple #[]) ∧ ∃ T', WS w T w' Y (bothW s r) T' := by
  have HA := Lib.hid h; clear h
  have H2 := Lib.hid hs; clear hs
  have HR := Lib.hid hr; clear hr
  have HV := Lib.hid hv; clear hv
  have HN := Lib.hid hne; clear hne
  obtain ⟨A, n, c, bs, h1, h2, h3, h4, h5⟩ := HA.out.ex
  have HO := Lib.hid h1; clear h1
  have HB := Lib.hid h2; clear h2
  have H3 := Lib.hid h3; clear h3
  have q := HB.out.lt
  have c0 := HB.out.c 0 _ rfl
  have c1 := HB.out.c 1 _ rfl
  have f0 := HB.out.fr 0
  have f1 := HB.out.fr 1
  cases s with
  | error x =>
    have hx : x ≠ 0 := h5 x rfl
    simp only [werr_error] at c1
    clear h4 h5
    have hx2 : (x != 0) = true := bne_iff_ne.2 hx
    go_enter Try.func17, Try.ntmps17
    go_wp2_with fail
    refine bodyPost_ret (v := .tuple #[]) (results_none rfl _ _ _) rfl ?_
    exact ⟨rfl, T, WS.refl HA.out⟩
  | ok b =>
    have hb : bs = b := h4 b rfl
    subst hb
    simp only [werr_ok] at c1
    clear h4 h5
    go_enter Try.func17, Try.ntmps17
    go_wp2_with (first | (at_builtin; refine wpList_appw rfl _ _ rfl 0 _ _ _ bs rfl HO.out.1 _ _ _ _ cs rfl H2.out (by exact hl) (Nat.zero_le _) ?_; intro A5 m5 d5 w5 g1 g2 g3; have HG1 := Lib.hid g1; have HG2 := Lib.hid g2; have HG3 := Lib.hid g3; have HB5 := Lib.hid (goesBx.keep (Bx.mk (S := fun b => b = Y) rfl HB.out.lt HB.out.c HB.out.fr) g2.size fun b e hl => g2.block b hl fun e2 => H3.out b e2.symm e); have c05 := HB5.out.c 0 _ rfl; have c15 := HB5.out.c 1 _ rfl; have f05 := HB5.out.fr 0; have f15 := HB5.out.fr 1; have q5 := HB5.out.lt; clear g1 g2 g3 c0 c1 f0 f1))
    refine bodyPost_end (results_none rfl _ _ _) rfl ?_
    have hg := grow2 (w := w5) Y (.slice A5 m5 d5) (.int .i64 e)
    have hz5 : w.heap.size ≤ w5.heap.size := HG2.out.size
    have hO5 : OwnB (fun b => b ≠ Y ∧ (T b ∨ (w.heap.size ≤ b ∧ b < w5.heap.size))) w5 A5 m5 d5 (bs ++ cs) := by
      refine ⟨HG1.out, fun b e => ?_⟩
      have hb5 := (HG1.out.block b e).2
      rcases HG3.out b e with h | h
      · exact ⟨H3.out b h, .inl (HO.out.2 b h)⟩
      · exact ⟨by omega, .inr ⟨h, hb5⟩⟩
    have hO6 := goesOwnB.grown hO5 hg fun b hb => hb.1
    have hB6 := (HB5.out.put 0 (.slice A5 m5 d5) (by show 0 < 2; decide)).put 1 (.int .i64 e) (by show 1 < 2; decide)
    refine ⟨rfl, fun b => T b ∨ (w.heap.size ≤ b ∧ b < w5.heap.size), ⟨.inl HA.out.mem, fun b hb => ?_, A5, m5, d5, bs ++ cs, hO6.mono fun b hb _ => hb.2, ?_, fun b e => (hO5.2 b e).1, ?_, ?_⟩, (Fr.of_grown HG2.out fun b e => HO.out.2 b e).seq (Fr.of_grown hg fun b e => by injection e with e; rw [← e]; exact HA.out.mem) (fun x hx h => h), fun b hb => by rcases hb with h | h; exact .inl h; exact .inr h.1⟩
    · have h6 : ((w5.setCell ⟨Y, 0, none⟩ (.slice A5 m5 d5)).setCell ⟨Y, 1, none⟩ (.int .i64 e)).heap.size = w5.heap.size := by simp
      rcases hb with h | h
      · have := HA.out.lt b h; omega
      · omega
    · have he : e = werr (bothW (.ok bs) r) := by rw [HR.out]; cases r <;> rfl
      rw [← he]
      exact Bx.mono hB6 fun b hb _ => by rw [hb]; exact .inl HA.out.mem
    · intro b hb
      cases r with
      | error x => cases hb
      | ok x => injection hb with hb; rw [← hb, HV.out x rfl]
    · intro x hx
      cases r with
      | error y => injection hx with hx; subst hx; exact HN.out _ rfl
      | ok y => cases hx
set_option maxRecDepth 100000 in
theorem wnumber_any {T : Nat → Prop} {w : World} {Y n : Nat} {s : Wr} {x : Int} (h : WrAt T w Y s) (h0 : 0 ≤ x) (hx : x < 18446744073709551616) (h1 : 1 ≤ n) (h8 : n ≤ 8) (hl : lenW s ≤ 140737488355000) :
    Calls Try.prog 60 #[.pointer (some ⟨Y, 0, none⟩), .int .u64 x, .int .i64 (n : Int)] w fun e w' => e = .returned (.tuple #[]) ∧ ∃ T', WS w T w' Y (bothW s (.ok (enc n x.toNat))) T' := by
  have HA := Lib.hid (WS.refl h); clear h
  have HP := Lib.hid (put_any x n w h1 h8 h0 hx)
  have hln : (enc n x.toNat).length = n := enc_length _ _
  obtain ⟨bs, hbs⟩ : ∃ bs, bs = enc n x.toNat := ⟨_, rfl⟩
  rw [← hbs] at HP hln ⊢
  clear hbs
  go_enter Try.func60, Try.ntmps60
  go_wp2_with fail
  refine HP.out.mono ?_
  rintro e w1 ⟨A, m, c, rfl, ho, hb⟩
  have HO := Lib.hid ho.slb; clear ho
  have HA1 := Lib.hid (HA.out.after hb); clear hb
  go_wp2_with fail
  refine (wput_any HA1.out.at' HO.out (.ok bs) (by rfl) (fun b e => by injection e) (fun x e => by cases e) (by omega)).mono ?_
  rintro e w2 ⟨rfl, T2, hk⟩
  have HK := Lib.hid (HA1.out.trans hk); clear hk
  go_wp2_with fail
  refine bodyPost_end (results_none rfl _ _ _) rfl ?_
  exact ⟨rfl, T2, HK.out⟩
set_option maxRecDepth 100000 in
theorem wcount_any {T : Nat → Prop} {w : World} {Y n : Nat} {s : Wr} (h : WrAt T w Y s) (hn : n ≤ 9223372036854775807) (hl : lenW s ≤ 140737488355000) :
    Calls Try.prog 62 #[.pointer (some ⟨Y, 0, none⟩), .int .i64 (n : Int)] w fun e w' => e = .returned (.tuple #[]) ∧ ∃ T', WS w T w' Y (bothW s (cntQ n)) T' := by
  have HA := Lib.hid (WS.refl h); clear h
  by_cases hc : 65535 < n
  · have e1 : cntQ n = .error 12 := by unfold cntQ; rw [if_pos hc]
    rw [e1]
    clear e1
    go_enter Try.func62, Try.ntmps62
    go_wp2_with fail
    refine (wput_any HA.out.at' (Sl.nil (S := fun _ => False)) (.error 12) (by rfl) (fun b e => by cases e) (fun x e => by injection e with e; omega) (by simp; omega)).mono ?_
    rintro e w2 ⟨rfl, T2, hk⟩
    have HK := Lib.hid (HA.out.trans hk); clear hk
    have hlk : lenW (bothW s (.error 12)) ≤ 140737488355000 := by have := lenW_both s (.error 12); have : lenW (.error 12) = 0 := rfl; omega
    go_wp2_with fail
    refine (wnumber_any (n := 2) HK.out.at' (by omega) (by omega) (by omega) (by omega) hlk).mono ?_
    rintro e w3 ⟨rfl, T3, hk⟩
    have HK3 := Lib.hid (HK.out.trans hk); clear hk
    have e3 : bothW (bothW s (.error 12)) (.ok (enc 2 (n : Int).toNat)) = bothW s (.error 12) := by cases s <;> rfl
    go_wp2_with fail
    refine bodyPost_end (results_none rfl _ _ _) rfl ?_
    exact ⟨rfl, T3, HK3.out.as (by exact e3)⟩
  · have e1 : cntQ n = .ok (enc 2 n) := by unfold cntQ; rw [if_neg hc]
    rw [e1]
    clear e1
    go_enter Try.func62, Try.ntmps62
    go_wp2_with fail
    refine (wnumber_any (n := 2) HA.out.at' (by omega) (by omega) (by omega) (by omega) hl).mono ?_
    rintro e w3 ⟨rfl, T3, hk⟩
    have HK3 := Lib.hid (HA.out.trans hk); clear hk
    go_wp2_with fail
    refine bodyPost_end (results_none rfl _ _ _) rfl ?_
    exact ⟨rfl, T3, HK3.out⟩
set_option maxRecDepth 100000 in
theorem wmust_any {T : Nat → Prop} {w : World} {Y : Nat} {s : Wr} {is : Bool} (h : WrAt T w Y s) (hl : lenW s ≤ 140737488355000) :
    Calls Try.prog 59 #[.pointer (some ⟨Y, 0, none⟩), .bool is] w fun e w' => e = .returned (.tuple #[]) ∧ ∃ T', WS w T w' Y (bothW s (mustQ is)) T' := by
  have HA := Lib.hid (WS.refl h); clear h
  cases is with
  | true =>
    have e1 : bothW s (mustQ true) = s := bothQ_nil s
    rw [e1]
    clear e1
    go_enter Try.func59, Try.ntmps59
    go_wp2_with fail
    refine bodyPost_end (results_none rfl _ _ _) rfl ?_
    exact ⟨rfl, T, HA.out⟩
  | false =>
    go_enter Try.func59, Try.ntmps59
    go_wp2_with fail
    refine (wput_any HA.out.at' (Sl.nil (S := fun _ => False)) (.error 1) (by rfl) (fun b e => by cases e) (fun x e => by injection e with e; omega) (by simp; omega)).mono ?_
    rintro e w2 ⟨rfl, T2, hk⟩
    have HK := Lib.hid (HA.out.trans hk); clear hk
    go_wp2_with fail
    refine bodyPost_end (results_none rfl _ _ _) rfl ?_
    exact ⟨rfl, T2, HK.out⟩
theorem text_both (s : Wr) (bs : B) : bothW (bothW s (cntQ bs.length)) (.ok bs) = bothW s (text bs) := by
  rw [bothW_assoc]
  unfold cntQ text
  by_cases h : 65535 < bs.length
  · rw [if_pos h, if_pos (by omega)]; rfl
  · rw [if_neg h, if_neg (by omega)]; rfl
set_option maxRecDepth 100000 in
theorem wshort_any {S T : Nat → Prop} {w : World} {Y : Nat} {s : Wr} {A : Option Addr} {n c : Nat} {bs : B} (h : WrAt T w Y s) (hs : Sl S w A n c bs) (hS : ∀ b, S b → ¬ T b) (hl : lenW s + bs.length ≤ 140737488354000) :
    Calls Try.prog 21 #[.pointer (some ⟨Y, 0, none⟩), .slice A n c] w fun e w' => e = .returned (.tuple #[]) ∧ ∃ T', WS w T w' Y (bothW s (text bs)) T' := by
  have HA := Lib.hid (WS.refl h); clear h
  have hn : n = bs.length := hs.len
  have H2 := Lib.hid hs; clear hs
  have HS := Lib.hid hS; clear hS
  have HN := Lib.hid hn; clear hn
  have hn2 : n ≤ 140737488354000 := by rw [HN.out]; omega
  go_enter Try.func21, Try.ntmps21
  go_wp2_with fail
  refine (wcount_any (n := n) HA.out.at' (by omega) (by omega)).mono ?_
  rintro e w2 ⟨rfl, T2, hk⟩
  have H3 := Lib.hid (hk.kept goesSl H2.out HS.out)
  have HK := Lib.hid (HA.out.trans hk); clear hk
  have hlk : lenW (bothW s (cntQ n)) + bs.length ≤ 140737488355000 := by have := lenW_both s (cntQ n); have := cnt_len n; omega
  go_wp2_with fail
  refine (wput_any HK.out.at' H3.out (.ok bs) (by rfl) (fun b e => by injection e) (fun x e => by cases e) (by omega)).mono ?_
  rintro e w3 ⟨rfl, T3, hk⟩
  have HK3 := Lib.hid (HK.out.trans hk); clear hk
  have e3 : bothW (bothW s (cntQ n)) (.ok bs) = bothW s (text bs) := by rw [HN.out]; exact text_both s bs
  have HE := Lib.hid e3; clear e3
  go_wp2_with fail
  refine bodyPost_end (results_none rfl _ _ _) rfl ?_
  exact ⟨rfl, T3, HK3.out.as HE.out⟩
end Go.Proofs.Sb

/- Walk over request.Params's flags. No conditions. (written by gen_rqflags.py) -/
namespace Sb
def fl7 (a b c d e f g : Bool) : Nat := a.toNat + 2 * b.toNat + 4 * c.toNat + 8 * d.toNat + 16 * e.toNat + 32 * f.toNat + 64 * g.toNat
/-- the first k of them -/
def flK (a b c d e f g : Bool) (k : Nat) : Nat := fl7 (a && decide (0 < k)) (b && decide (1 < k)) (c && decide (2 < k)) (d && decide (3 < k)) (e && decide (4 < k)) (f && decide (5 < k)) (g && decide (6 < k))
theorem fl7_lt : ∀ a b c d e f g, fl7 a b c d e f g < 128 := by decide +kernel
theorem fl7_bit : ∀ a b c d e f g, bitB (fl7 a b c d e f g) 0 = a ∧ bitB (fl7 a b c d e f g) 1 = b ∧ bitB (fl7 a b c d e f g) 2 = c ∧ bitB (fl7 a b c d e f g) 3 = d ∧ bitB (fl7 a b c d e f g) 4 = e ∧ bitB (fl7 a b c d e f g) 5 = f ∧ bitB (fl7 a b c d e f g) 6 = g := by decide +kernel
end Sb
namespace Go.Proofs.Sb
open Go.RowKit _root_.Sb
theorem flK_0 : ∀ a b c d e f g, flK a b c d e f g 0 = 0 := by decide +kernel
theorem flK_7 : ∀ a b c d e f g, flK a b c d e f g 7 = fl7 a b c d e f g := by decide +kernel
theorem or_k0 : ∀ a b c d e f g : Bool, a = true → bits .or .u8 ((flK a b c d e f g 0 : Nat) : Int) 1 = ((flK a b c d e f g 1 : Nat) : Int) := by decide +kernel
theorem no_k0 : ∀ a b c d e f g : Bool, a = false → flK a b c d e f g 1 = flK a b c d e f g 0 := by decide +kernel
theorem or_k1 : ∀ a b c d e f g : Bool, b = true → bits .or .u8 ((flK a b c d e f g 1 : Nat) : Int) 2 = ((flK a b c d e f g 2 : Nat) : Int) := by decide +kernel
theorem no_k1 : ∀ a b c d e f g : Bool, b = false → flK a b c d e f g 2 = flK a b c d e f g 1 := by decide +kernel
theorem or_k2 : ∀ a b c d e f g : Bool, c = true → bits .or .u8 ((flK a b c d e f g 2 : Nat) : Int) 4 = ((flK a b c d e f g 3 : Nat) : Int) := by decide +kernel
theorem no_k2 : ∀ a b c d e f g : Bool, c = false → flK a b c d e f g 3 = flK a b c d e f g 2 := by decide +kernel
theorem or_k3 : ∀ a b c d e f g : Bool, d = true → bits .or .u8 ((flK a b c d e f g 3 : Nat) : Int) 8 = ((flK a b c d e f g 4 : Nat) : Int) := by decide +kernel
theorem no_k3 : ∀ a b c d e f g : Bool, d = false → flK a b c d e f g 4 = flK a b c d e f g 3 := by decide +kernel
theorem or_k4 : ∀ a b c d e f g : Bool, e = true → bits .or .u8 ((flK a b c d e f g 4 : Nat) : Int) 16 = ((flK a b c d e f g 5 : Nat) : Int) := by decide +kernel
theorem no_k4 : ∀ a b c d e f g : Bool, e = false → flK a b c d e f g 5 = flK a b c d e f g 4 := by decide +kernel
theorem or_k5 : ∀ a b c d e f g : Bool, f = true → bits .or .u8 ((flK a b c d e f g 5 : Nat) : Int) 32 = ((flK a b c d e f g 6 : Nat) : Int) := by decide +kernel
theorem no_k5 : ∀ a b c d e f g : Bool, f = false → flK a b c d e f g 6 = flK a b c d e f g 5 := by decide +kernel
theorem or_k6 : ∀ a b c d e f g : Bool, g = true → bits .or .u8 ((flK a b c d e f g 6 : Nat) : Int) 64 = ((flK a b c d e f g 7 : Nat) : Int) := by decide +kernel
theorem no_k6 : ∀ a b c d e f g : Bool, g = false → flK a b c d e f g 7 = flK a b c d e f g 6 := by decide +kernel

set_option maxHeartbeats 8000000 in
set_option maxRecDepth 100000 in
theorem wflags_any {w : World} {p : Par} {A1 : Option Addr} {n1 c1 : Nat} {A2 : Option Addr} {n2 c2 : Nat} {A3 : Option Addr} {n3 c3 : Nat} :
    Calls Try.prog 58 #[.agg (parV p A1 n1 c1 A2 n2 c2 A3 n3 c3).toArray] w fun e w' => e = .returned (.int .u8 (fl7 (decide (0 < n1)) p.skip p.paged p.resumed p.serially p.timed (decide (0 < n2)) : Nat)) ∧ Below w.heap.size w w' := by
  obtain ⟨cons, values, names, skip, paged, page, resumed, state, serially, serial, timed, time⟩ := p
  simp only [parV]
  go_enter Try.func58, Try.ntmps58
  go_wp2_with fail
  go_loopw [3, 33] (fun acc i wr => ∃ k : Nat, k ≤ 7 ∧ i = .int .i64 (k : Int) ∧ acc = .int .u8 (flK (decide (0 < n1)) skip paged resumed serially timed (decide (0 < n2)) k : Nat) ∧ Hid (Below w.heap.size w wr) ∧ Hid (Bx (fun b => b = w.heap.size + 1) wr (w.heap.size + 1) [.bool (decide (0 < n1)), .int .u8 1, .bool skip, .int .u8 2, .bool paged, .int .u8 4, .bool resumed, .int .u8 8, .bool serially, .int .u8 16, .bool timed, .int .u8 32, .bool (decide (0 < n2)), .int .u8 64])) (fun _ i _ => (7 - intOf i).toNat)
  case atStart => exact ⟨0, by decide, rfl, by rw [flK_0]; rfl, Lib.hid (by repeat (first | exact Below.refl _ _ | assumption | refine Below.drew ?_ | refine below_drewN ?_ _ | refine Below.alloc ?_ (by first | (simp; done) | omega | (simp; omega)) _ | refine Below.setCell ?_ (by first | (simp; done) | omega | (simp; omega)) _)), Lib.hid (Bx.alloc (w.alloc _) #[.bool (decide (0 < n1)), .int .u8 1, .bool skip, .int .u8 2, .bool paged, .int .u8 4, .bool resumed, .int .u8 8, .bool serially, .int .u8 16, .bool timed, .int .u8 32, .bool (decide (0 < n2)), .int .u8 64] 160 (X := w.heap.size + 1) (S := fun b => b = w.heap.size + 1) (by simp) (by simp))⟩
  case round =>
    obtain ⟨k, hk, rfl, rfl, HBel, HBx⟩ := hrel
    have q := HBx.out.lt
    have q0 := HBel.out.size
    by_cases h7 : k = 7
    · subst h7
      rw [flK_7]
      go_wp2_with fail
      go_ret
      exact ⟨rfl, HBel.out⟩
    · have hk7 : k = 0 ∨ k = 1 ∨ k = 2 ∨ k = 3 ∨ k = 4 ∨ k = 5 ∨ k = 6 := by omega
      clear hk h7
      rcases hk7 with rfl | rfl | rfl | rfl | rfl | rfl | rfl
      · have e0 := HBx.out.c 0 _ rfl
        have e1 := HBx.out.c 1 _ rfl
        cases hb : (decide (0 < n1)) with
        | true =>
          rw [hb] at e0 HBx
          clear hb
          go_wp2_with fail
          exact ⟨⟨1, by decide, rfl, congrArg (Value.int .u8) (or_k0 true skip paged resumed serially timed (decide (0 < n2)) rfl), Lib.hid (HBel.out.alloc q0 _), Lib.hid (HBx.out.after ((Below.refl _ _).alloc (Nat.le_refl _) _))⟩, by simp [intOf]⟩
        | false =>
          rw [hb] at e0 HBx
          clear hb
          go_wp2_with fail
          exact ⟨⟨1, by decide, rfl, congrArg (fun x : Nat => Value.int .u8 (x : Int)) (no_k0 false skip paged resumed serially timed (decide (0 < n2)) rfl).symm, Lib.hid (HBel.out.alloc q0 _), Lib.hid (HBx.out.after ((Below.refl _ _).alloc (Nat.le_refl _) _))⟩, by simp [intOf]⟩
      · have e0 := HBx.out.c 2 _ rfl
        have e1 := HBx.out.c 3 _ rfl
        cases hb : skip with
        | true =>
          rw [hb] at e0 HBx
          clear hb
          go_wp2_with fail
          exact ⟨⟨2, by decide, rfl, congrArg (Value.int .u8) (or_k1 (decide (0 < n1)) true paged resumed serially timed (decide (0 < n2)) rfl), Lib.hid (HBel.out.alloc q0 _), Lib.hid (HBx.out.after ((Below.refl _ _).alloc (Nat.le_refl _) _))⟩, by simp [intOf]⟩
        | false =>
          rw [hb] at e0 HBx
          clear hb
          go_wp2_with fail
          exact ⟨⟨2, by decide, rfl, congrArg (fun x : Nat => Value.int .u8 (x : Int)) (no_k1 (decide (0 < n1)) false paged resumed serially timed (decide (0 < n2)) rfl).symm, Lib.hid (HBel.out.alloc q0 _), Lib.hid (HBx.out.after ((Below.refl _ _).alloc (Nat.le_refl _) _))⟩, by simp [intOf]⟩
      · have e0 := HBx.out.c 4 _ rfl
        have e1 := HBx.out.c 5 _ rfl
        cases hb : paged with
        | true =>
          rw [hb] at e0 HBx
          clear hb
          go_wp2_with fail
          exact ⟨⟨3, by decide, rfl, congrArg (Value.int .u8) (or_k2 (decide (0 < n1)) skip true resumed serially timed (decide (0 < n2)) rfl), Lib.hid (HBel.out.alloc q0 _), Lib.hid (HBx.out.after ((Below.refl _ _).alloc (Nat.le_refl _) _))⟩, by simp [intOf]⟩
        | false =>
          rw [hb] at e0 HBx
          clear hb
          go_wp2_with fail
          exact ⟨⟨3, by decide, rfl, congrArg (fun x : Nat => Value.int .u8 (x : Int)) (no_k2 (decide (0 < n1)) skip false resumed serially timed (decide (0 < n2)) rfl).symm, Lib.hid (HBel.out.alloc q0 _), Lib.hid (HBx.out.after ((Below.refl _ _).alloc (Nat.le_refl _) _))⟩, by simp [intOf]⟩
      · have e0 := HBx.out.c 6 _ rfl
        have e1 := HBx.out.c 7 _ rfl
        cases hb : resumed with
        | true =>
          rw [hb] at e0 HBx
          clear hb
          go_wp2_with fail
          exact ⟨⟨4, by decide, rfl, congrArg (Value.int .u8) (or_k3 (decide (0 < n1)) skip paged true serially timed (decide (0 < n2)) rfl), Lib.hid (HBel.out.alloc q0 _), Lib.hid (HBx.out.after ((Below.refl _ _).alloc (Nat.le_refl _) _))⟩, by simp [intOf]⟩
        | false =>
          rw [hb] at e0 HBx
          clear hb
          go_wp2_with fail
          exact ⟨⟨4, by decide, rfl, congrArg (fun x : Nat => Value.int .u8 (x : Int)) (no_k3 (decide (0 < n1)) skip paged false serially timed (decide (0 < n2)) rfl).symm, Lib.hid (HBel.out.alloc q0 _), Lib.hid (HBx.out.after ((Below.refl _ _).alloc (Nat.le_refl _) _))⟩, by simp [intOf]⟩
      · have e0 := HBx.out.c 8 _ rfl
        have e1 := HBx.out.c 9 _ rfl
        cases hb : serially with
        | true =>
          rw [hb] at e0 HBx
          clear hb
          go_wp2_with fail
          exact ⟨⟨5, by decide, rfl, congrArg (Value.int .u8) (or_k4 (decide (0 < n1)) skip paged resumed true timed (decide (0 < n2)) rfl), Lib.hid (HBel.out.alloc q0 _), Lib.hid (HBx.out.after ((Below.refl _ _).alloc (Nat.le_refl _) _))⟩, by simp [intOf]⟩
        | false =>
          rw [hb] at e0 HBx
          clear hb
          go_wp2_with fail
          exact ⟨⟨5, by decide, rfl, congrArg (fun x : Nat => Value.int .u8 (x : Int)) (no_k4 (decide (0 < n1)) skip paged resumed false timed (decide (0 < n2)) rfl).symm, Lib.hid (HBel.out.alloc q0 _), Lib.hid (HBx.out.after ((Below.refl _ _).alloc (Nat.le_refl _) _))⟩, by simp [intOf]⟩
      · have e0 := HBx.out.c 10 _ rfl
        have e1 := HBx.out.c 11 _ rfl
        cases hb : timed with
        | true =>
          rw [hb] at e0 HBx
          clear hb
          go_wp2_with fail
          exact ⟨⟨6, by decide, rfl, congrArg (Value.int .u8) (or_k5 (decide (0 < n1)) skip paged resumed serially true (decide (0 < n2)) rfl), Lib.hid (HBel.out.alloc q0 _), Lib.hid (HBx.out.after ((Below.refl _ _).alloc (Nat.le_refl _) _))⟩, by simp [intOf]⟩
        | false =>
          rw [hb] at e0 HBx
          clear hb
          go_wp2_with fail
          exact ⟨⟨6, by decide, rfl, congrArg (fun x : Nat => Value.int .u8 (x : Int)) (no_k5 (decide (0 < n1)) skip paged resumed serially false (decide (0 < n2)) rfl).symm, Lib.hid (HBel.out.alloc q0 _), Lib.hid (HBx.out.after ((Below.refl _ _).alloc (Nat.le_refl _) _))⟩, by simp [intOf]⟩
      · have e0 := HBx.out.c 12 _ rfl
        have e1 := HBx.out.c 13 _ rfl
        cases hb : (decide (0 < n2)) with
        | true =>
          rw [hb] at e0 HBx
          clear hb
          go_wp2_with fail
          exact ⟨⟨7, by decide, rfl, congrArg (Value.int .u8) (or_k6 (decide (0 < n1)) skip paged resumed serially timed true rfl), Lib.hid (HBel.out.alloc q0 _), Lib.hid (HBx.out.after ((Below.refl _ _).alloc (Nat.le_refl _) _))⟩, by simp [intOf]⟩
        | false =>
          rw [hb] at e0 HBx
          clear hb
          go_wp2_with fail
          exact ⟨⟨7, by decide, rfl, congrArg (fun x : Nat => Value.int .u8 (x : Int)) (no_k6 (decide (0 < n1)) skip paged resumed serially timed false rfl).symm, Lib.hid (HBel.out.alloc q0 _), Lib.hid (HBx.out.after ((Below.refl _ _).alloc (Nat.le_refl _) _))⟩, by simp [intOf]⟩
end Go.Proofs.Sb

/- Walk over request.writer's values. Conditions: sums of lengths up to 2^47. (written by gen_rqwv.py) -/
namespace Sb
/-- a value's parts, with a name or without -/
def elsQ (names : List B) (l : List Val) : List (B × Val) := if names = [] then l.map (fun v => ([], v)) else names.zip l
def entQ (named : Bool) (p : B × Val) : Wr := bothW (if named then text p.1 else .ok []) (value p.2)
def valsQ (names : List B) (l : List Val) : Wr := bothW (cntQ l.length) (putsM (entQ (decide (names ≠ []))) (elsQ names l))
def costE : List (B × Val) → Nat | [] => 0 | p :: r => 65541 + p.2.bytes.length + costE r
theorem text_le (s : B) : lenW (text s) ≤ 65537 := by
  cases h : text s with
  | error e => exact Nat.zero_le _
  | ok b => have := (text_len h).1; exact this
theorem value_le (v : Val) : lenW (value v) ≤ 4 + v.bytes.length := by
  cases h : value v with
  | error e => exact Nat.zero_le _
  | ok b => exact value_len h
theorem ent_le (nm : Bool) (p : B × Val) : lenW (entQ nm p) ≤ 65541 + p.2.bytes.length := by
  unfold entQ
  have h1 := lenW_both (if nm then text p.1 else .ok []) (value p.2)
  have h2 := value_le p.2
  have h3 : lenW (if nm then text p.1 else .ok []) ≤ 65537 := by
    cases nm with
    | true => exact text_le p.1
    | false => exact Nat.zero_le _
  omega
theorem putsM_cons {α : Type} (f : α → Wr) (x : α) (l : List α) : putsM f (x :: l) = bothW (f x) (putsM f l) := by
  simp only [putsM, bothW]
theorem puts_le (nm : Bool) : ∀ l : List (B × Val), lenW (putsM (entQ nm) l) ≤ costE l
  | [] => Nat.zero_le _
  | p :: r => by
    rw [putsM_cons]
    have h1 := lenW_both (entQ nm p) (putsM (entQ nm) r)
    have h2 := ent_le nm p
    have h3 := puts_le nm r
    show _ ≤ 65541 + p.2.bytes.length + costE r
    omega
theorem cost_take : ∀ (l : List (B × Val)) (k : Nat), costE (l.take k) ≤ costE l
  | [], k => by simp [costE]
  | p :: r, 0 => Nat.zero_le _
  | p :: r, k + 1 => by
    have := cost_take r k
    show 65541 + p.2.bytes.length + costE (r.take k) ≤ 65541 + p.2.bytes.length + costE r
    omega
theorem cost_mem : ∀ {l : List (B × Val)} {p : B × Val}, p ∈ l → 65541 + p.2.bytes.length ≤ costE l
  | q :: r, p, h => by
    show _ ≤ 65541 + q.2.bytes.length + costE r
    rcases List.mem_cons.1 h with rfl | h
    · omega
    · have := cost_mem h; omega
theorem putsM_snoc {α : Type} (f : α → Wr) : ∀ {l : List α} {k : Nat} {x : α}, l[k]? = some x → putsM f (l.take (k + 1)) = bothW (putsM f (l.take k)) (f x)
  | [], k, x, h => by simp at h
  | y :: r, 0, x, h => by
    injection h with h
    subst h
    show putsM f [y] = bothW (.ok []) (f y)
    rw [putsM_cons]
    cases f y <;> simp [bothW, putsM]
  | y :: r, k + 1, x, h => by
    show putsM f (y :: r.take (k + 1)) = bothW (putsM f (y :: r.take k)) (f x)
    rw [putsM_cons, putsM_cons, putsM_snoc f (k := k) (by simpa using h), bothW_assoc]
theorem putsM_part {α : Type} (f : α → Wr) : ∀ (l : List α) (k : Nat) {e : Int} (s : Wr), bothW s (putsM f (l.take k)) = .error e → bothW s (putsM f l) = .error e
  | [], k, e, s, h => by simpa using h
  | y :: r, 0, e, s, h => by
    have h : bothW s (.ok []) = .error e := h
    rw [bothQ_nil] at h
    rw [h]; rfl
  | y :: r, k + 1, e, s, h => by
    have h : bothW s (putsM f (y :: r.take k)) = .error e := h
    rw [putsM_cons, ← bothW_assoc] at h
    rw [putsM_cons, ← bothW_assoc]
    exact putsM_part f r k _ h
theorem els_len {names : List B} {l : List Val} (h : names = [] ∨ names.length = l.length) : (elsQ names l).length = l.length := by
  unfold elsQ
  split
  · simp
  · rename_i h0
    rcases h with h | h
    · exact absurd h h0
    · simp [h]
theorem els_get {names : List B} {l : List Val} {k : Nat} {p : B × Val} (hp : (elsQ names l)[k]? = some p) : l[k]? = some p.2 ∧ (names ≠ [] → names[k]? = some p.1) ∧ (names = [] → p.1 = []) := by
  unfold elsQ at hp
  split at hp
  · rename_i h0
    rw [List.getElem?_map] at hp
    cases h : l[k]? with
    | none => rw [h] at hp; cases hp
    | some v => rw [h] at hp; injection hp with hp; subst hp; exact ⟨rfl, fun h => absurd h0 h, fun _ => rfl⟩
  · rename_i h0
    rw [List.getElem?_zip_eq_some] at hp
    exact ⟨hp.2, fun _ => hp.1, fun h => absurd h h0⟩
end Sb
namespace Go.Proofs.Sb
open Go.RowKit _root_.Sb
theorem WrAt.cellE {T : Nat → Prop} {w : World} {Y : Nat} {s : Wr} (h : WrAt T w Y s) : w.cell? ⟨Y, 1, none⟩ = some (.int .i64 (werr s)) := by
  obtain ⟨A, n, c, bs, h1, h2, h3, h4, h5⟩ := h.ex
  exact h2.c 1 _ rfl
theorem WrAt.ne0 {T : Nat → Prop} {w : World} {Y : Nat} {e : Int} (h : WrAt T w Y (.error e)) : e ≠ 0 := by
  obtain ⟨A, n, c, bs, h1, h2, h3, h4, h5⟩ := h.ex
  exact h5 e rfl
set_option maxHeartbeats 8000000 in
set_option maxRecDepth 100000 in
theorem wvalues_any {S T : Nat → Prop} {w : World} {Y : Nat} {s : Wr} {A1 : Option Addr} {n1 c1 : Nat} {A2 : Option Addr} {n2 c2 : Nat} {l : List Val} {names : List B} (h : WrAt T w Y s) (hv : Arr 2 (valP S w) S w A1 n1 c1 l) (hn : Arr 1 strP S w A2 n2 c2 names) (hS : ∀ b, S b → b < w.heap.size ∧ ¬ T b) (hnm : names = [] ∨ names.length = l.length) (hl : lenW s + 2 * costE (elsQ names l) ≤ 140737488350000) :
    Calls Try.prog 61 #[.pointer (some ⟨Y, 0, none⟩), .slice A1 n1 c1, .slice A2 n2 c2] w fun e w' => e = .returned (.tuple #[]) ∧ ∃ T', WS w T w' Y (bothW s (valsQ names l)) T' := by
  have HA := Lib.hid (WS.refl h); clear h
  have HL := Lib.hid hv.len
  have HN := Lib.hid hn.len
  have hn1 : n1 ≤ 9223372036854775807 := Nat.le_trans hv.cap hv.capMax
  have HV := Lib.hid hv; clear hv
  have HNM := Lib.hid hn; clear hn
  have HS := Lib.hid hS; clear hS
  have HS9 := Lib.hid (fun b (h : S b) => (HS.out b h).2)
  have HE := Lib.hid (els_len hnm)
  have HQ := Lib.hid hnm; clear hnm
  obtain ⟨els, hels⟩ : ∃ x, x = elsQ names l := ⟨_, rfl⟩
  obtain ⟨f, hf⟩ : ∃ x, x = entQ (decide (names ≠ [])) := ⟨_, rfl⟩
  have HG : Hid (∀ (k : Nat) (p : B × Val), els[k]? = some p → l[k]? = some p.2 ∧ (names ≠ [] → names[k]? = some p.1) ∧ (names = [] → p.1 = [])) := Lib.hid (fun k p h => els_get (by rw [← hels]; exact h))
  have HPL : Hid (∀ k, lenW (putsM f (els.take k)) ≤ costE els) := Lib.hid (fun k => by rw [hf]; exact Nat.le_trans (puts_le _ _) (cost_take _ _))
  have HV1 : Hid (valsQ names l = bothW (cntQ n1) (putsM f els)) := Lib.hid (by rw [hf, hels, HL.out]; rfl)
  rw [← hels] at hl HE
  have HF := Lib.hid hf; clear hf
  clear hels
  rw [HV1.out]
  have hEn : els.length = n1 := by rw [HE.out, HL.out]
  have HEN := Lib.hid hEn; clear hEn
  have hC := cnt_len n1
  obtain ⟨cn, hcn⟩ : ∃ x, x = cntQ n1 := ⟨_, rfl⟩
  rw [← hcn] at hC ⊢
  have HCN := Lib.hid hcn; clear hcn
  go_enter Try.func61, Try.ntmps61
  go_wp2_with fail
  refine (wcount_any (n := n1) HA.out.at' (by omega) (by omega)).mono ?_
  rintro e w1 ⟨rfl, T1, hk⟩
  have HA1 := Lib.hid (HA.out.trans hk); clear hk
  rw [← HCN.out] at HA1
  go_wp2_with fail
  go_loopw [14] (fun i wr => ∃ k Tk, k ≤ n1 ∧ i = .int .i64 ((k : Nat) : Int) ∧ Hid (WS w T wr Y (bothW (bothW s cn) (putsM f (els.take k))) Tk)) (fun i _ => (n1 - intOf i).toNat)
  case atStart => exact ⟨0, T1, Nat.zero_le _, rfl, HA1.out.as (by show _ = bothW _ (.ok []); rw [bothQ_nil])⟩
  case round =>
    obtain ⟨k, Tk, hk, rfl, HW⟩ := hrel
    by_cases hlt : k < n1
    · obtain ⟨p, hp⟩ : ∃ p, els[k]? = some p := ⟨_, List.getElem?_eq_getElem (by rw [HEN.out]; exact hlt)⟩
      obtain ⟨hp2, hp1, hp0⟩ := HG.out k p hp
      have hcost := cost_mem (List.mem_of_getElem? hp)
      have hsn := putsM_snoc f hp
      have HP1 := Lib.hid hp1; clear hp1
      have HP0 := Lib.hid hp0; clear hp0
      have HSN := Lib.hid hsn; clear hsn hp
      have hlen : lenW (bothW (bothW s cn) (putsM f (els.take k))) ≤ lenW s + 2 + costE els := by
        have h1 := lenW_both (bothW s cn) (putsM f (els.take k)); have h2 := lenW_both s cn; have h3 := HPL.out k; omega
      obtain ⟨st, hst⟩ : ∃ x, x = bothW (bothW s cn) (putsM f (els.take k)) := ⟨_, rfl⟩
      rw [← hst] at HW hlen
      have HST := Lib.hid hst; clear hst
      have hvr := HW.out.keep goesArrV HV.out HS9.out
      obtain ⟨g1, o1, rfl, hs1, hlt1, hcells⟩ := hvr.at (by decide) (by omega)
      obtain ⟨v, hvl, ⟨B1, m1, d1, rfl, hb1⟩, hvc⟩ := hcells.out k p.2 hp2
      have e0 := hvc 0 _ rfl
      have e1 := hvc 1 _ rfl
      simp only [Nat.add_zero] at e0
      clear hvl hvc hcells hvr hp2
      have HB := Lib.hid hb1; clear hb1
      have y1 := HW.out.at'.cellE
      have hY : Y < wr.heap.size := HW.out.at'.lt Y HW.out.at'.mem
      cases st with
      | error e =>
        have hne := HW.out.at'.ne0
        have hne2 : (e != 0) = true := bne_iff_ne.2 hne
        simp only [werr_error] at y1
        go_wp2_with fail
        refine bodyPost_ret (v := .tuple #[]) (results_none rfl _ _ _) rfl ?_
        exact ⟨rfl, Tk, (HW.out.after (by repeat (first | exact Below.refl _ _ | assumption | refine Below.drew ?_ | refine below_drewN ?_ _ | refine Below.alloc ?_ (by first | (simp; done) | omega | (simp; omega)) _ | refine Below.setCell ?_ (by first | (simp; done) | omega | (simp; omega)) _))).as (by rw [← bothW_assoc]; exact (putsM_part f els k _ HST.out.symm).symm)⟩
      | ok b0 =>
        simp only [werr_ok] at y1
        have hm1 : m1 ≤ 140737488350000 := by have := HB.out.len; omega
        by_cases hz : names = []
        · have hn20 : n2 = 0 := by rw [HN.out, hz]; rfl
          subst hn20
          have HZ := Lib.hid hz; clear hz
          go_wp2_with fail
          refine (value_any (v := p.2) (HB.out.after (by repeat (first | exact Below.refl _ _ | assumption | refine Below.drew ?_ | refine below_drewN ?_ _ | refine Below.alloc ?_ (by first | (simp; done) | omega | (simp; omega)) _ | refine Below.setCell ?_ (by first | (simp; done) | omega | (simp; omega)) _))) (by omega) (value p.2) rfl).mono ?_
          rintro ev wv ⟨A5, m5, c5, rfl, ho, hb⟩
          have HO := Lib.hid ho.slb; clear ho
          have HW5 := Lib.hid ((HW.out.after (by repeat (first | exact Below.refl _ _ | assumption | refine Below.drew ?_ | refine below_drewN ?_ _ | refine Below.alloc ?_ (by first | (simp; done) | omega | (simp; omega)) _ | refine Below.setCell ?_ (by first | (simp; done) | omega | (simp; omega)) _))).after hb); clear hb
          have hlv : (wval (value p.2)).length ≤ 4 + p.2.bytes.length := by rw [lenW_val]; exact value_le _
          have HRN := Lib.hid (fun x (e : value p.2 = .error x) => value_ne e)
          obtain ⟨rv, hrv⟩ : ∃ x, x = value p.2 := ⟨_, rfl⟩
          rw [← hrv] at HO hlv HRN ⊢
          have HRV := Lib.hid hrv; clear hrv
          go_wp2_with fail
          refine (wput_any HW5.out.at' HO.out rv rfl (fun b e => by rw [e]; rfl) HRN.out (by have : lenW (.ok b0) ≤ lenW s + 2 + costE els := hlen; omega)).mono ?_
          rintro e9 w9 ⟨rfl, T9, hk9⟩
          have HW9 := Lib.hid (HW5.out.trans hk9); clear hk9

          go_wp2_with fail
          refine ⟨⟨k + 1, T9, by omega, by congr 1, HW9.out.as ?_⟩, by simp [intOf]; omega⟩
          rw [HSN.out, ← bothW_assoc, ← HST.out, HF.out, HRV.out, HZ.out]
          show _ = bothW (.ok b0) (bothW (.ok []) (value p.2))
          cases value p.2 <;> rfl
        · have hnk := HP1.out hz
          have hk2 : k < n2 := by rw [HN.out]; exact (List.getElem?_eq_some_iff.1 hnk).1
          have hz2 : (0 : Int) < (n2 : Int) := by omega
          have HZ := Lib.hid hz; clear hz
          have hnr := HW.out.keep goesArr HNM.out HS9.out
          obtain ⟨g2, o2, rfl, hs2, hlt2, hcells2⟩ := hnr.at (by decide) (by omega)
          obtain ⟨v2, hvl2, ⟨rfl, hpl⟩, hvc2⟩ := hcells2.out k p.1 hnk
          have e2 := hvc2 0 _ rfl
          simp only [Nat.add_zero, Nat.mul_one] at e2
          clear hvl2 hvc2 hcells2 hnr hnk
          have HSK := Lib.hid (fun b (h : S b) => HW.out.not (HS.out b h).1 (HS.out b h).2)
          have HB7 : Hid (Bx (fun b => b = wr.heap.size) (wr.alloc (.cells #[.int .i64 p.2.kind, .slice B1 m1 d1] 28)) wr.heap.size [.int .i64 p.2.kind, .slice B1 m1 d1]) := Lib.hid (Bx.alloc wr #[.int .i64 p.2.kind, .slice B1 m1 d1] 28 (S := fun b => b = wr.heap.size) rfl rfl)
          go_wp2_with fail
          refine (text_any p.1 _ hpl (text p.1) rfl).mono ?_
          rintro e4 w4 ⟨A4, m4, c4, rfl, ho, hb⟩
          have HO4 := Lib.hid ho.slb; clear ho
          have HW4 := Lib.hid ((HW.out.after (by repeat (first | exact Below.refl _ _ | assumption | refine Below.drew ?_ | refine below_drewN ?_ _ | refine Below.alloc ?_ (by first | (simp; done) | omega | (simp; omega)) _ | refine Below.setCell ?_ (by first | (simp; done) | omega | (simp; omega)) _))).after hb)
          have HB4 := Lib.hid ((HB.out.after (by repeat (first | exact Below.refl _ _ | assumption | refine Below.drew ?_ | refine below_drewN ?_ _ | refine Below.alloc ?_ (by first | (simp; done) | omega | (simp; omega)) _ | refine Below.setCell ?_ (by first | (simp; done) | omega | (simp; omega)) _))).after hb)
          have HB74 := Lib.hid (HB7.out.after hb)
          clear hb
          have hlt4 : (wval (text p.1)).length ≤ 65537 := by rw [lenW_val]; exact text_le _
          have HRT := Lib.hid (fun x (e : text p.1 = .error x) => text_ne e)
          obtain ⟨rt, hrt⟩ : ∃ x, x = text p.1 := ⟨_, rfl⟩
          rw [← hrt] at HO4 hlt4 HRT ⊢
          have HRV4 := Lib.hid hrt; clear hrt
          go_wp2_with fail
          refine (wput_any HW4.out.at' HO4.out rt rfl (fun b e => by rw [e]; rfl) HRT.out (by have : lenW (.ok b0) ≤ lenW s + 2 + costE els := hlen; omega)).mono ?_
          rintro e6 w6 ⟨rfl, T6, hk6⟩
          have HB6 := Lib.hid (hk6.kept goesSl HB4.out HSK.out)
          have HB76 := Lib.hid (hk6.kept goesBx HB74.out fun b e => by rw [e]; exact HW.out.ne (Nat.le_refl _))
          have HW6 := Lib.hid (HW4.out.trans hk6); clear hk6
          have hlen6 : lenW (bothW (.ok b0) rt) ≤ lenW s + 2 + costE els + 65537 := by have h1 := lenW_both (.ok b0) rt; rw [lenW_val] at hlt4; omega
          have k0 := HB76.out.c 0 _ rfl
          have k1 := HB76.out.c 1 _ rfl
          obtain ⟨s6, hs6⟩ : ∃ x, x = bothW (.ok b0) rt := ⟨_, rfl⟩
          rw [← hs6] at HW6 hlen6
          have HS6 := Lib.hid hs6; clear hs6
          have q6 := HB76.out.lt
          go_wp2_with fail
          refine (value_any (v := p.2) HB6.out (by omega) (value p.2) rfl).mono ?_
          rintro ev wv ⟨A5, m5, c5, rfl, ho, hb⟩
          have HO := Lib.hid ho.slb; clear ho
          have HW5 := Lib.hid (HW6.out.after hb); clear hb
          have hlv : (wval (value p.2)).length ≤ 4 + p.2.bytes.length := by rw [lenW_val]; exact value_le _
          have HRN := Lib.hid (fun x (e : value p.2 = .error x) => value_ne e)
          obtain ⟨rv, hrv⟩ : ∃ x, x = value p.2 := ⟨_, rfl⟩
          rw [← hrv] at HO hlv HRN ⊢
          have HRV := Lib.hid hrv; clear hrv
          go_wp2_with fail
          refine (wput_any HW5.out.at' HO.out rv rfl (fun b e => by rw [e]; rfl) HRN.out (by omega)).mono ?_
          rintro e9 w9 ⟨rfl, T9, hk9⟩
          have HW9 := Lib.hid (HW5.out.trans hk9); clear hk9

          go_wp2_with fail
          refine ⟨⟨k + 1, T9, by omega, by congr 1, HW9.out.as ?_⟩, by simp [intOf]; omega⟩
          rw [HSN.out, ← bothW_assoc, ← HST.out, HF.out, HRV.out, HS6.out, HRV4.out, bothW_assoc]
          unfold entQ
          rw [if_pos (by simpa using HZ.out)]
    · obtain rfl : k = n1 := by omega
      go_wp2_with fail
      refine bodyPost_end (results_none rfl _ _ _) rfl ?_
      exact ⟨rfl, Tk, HW.out.as (by rw [← bothW_assoc, List.take_of_length_le (by rw [HEN.out]; exact Nat.le_refl _)])⟩
end Go.Proofs.Sb
