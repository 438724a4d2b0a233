/- Walk over request.Get. Conditions: lengths up to 2^47. (written by gen_rqget.py) -/
import Derived.Test.YtdgmkmadlnmhbaaRqv
import Derived.Test.YtdgmkmadlnmhbaaBoxl
import Derived.Deep.CutBlock
set_option linter.unusedVariables false
set_option linter.unusedSimpArgs false
namespace Go.Proofs.Sb
open Go.RowKit _root_.Sb

/-- a slice's three words -/
structure Slc where
  a : Option Addr
  n : Nat
  c : Nat
abbrev Slc.z : Slc := ⟨none, 0, 0⟩
/-- a request in its cells -/
def rqV (q : Rq) (o i r1 r2 r3 ev t al : Slc) : List Value := [.int .u8 (q.opcode : Int), .slice o.a o.n o.c, .string (str q.text), .slice i.a i.n i.c, .int .u16 (q.run.cons : Int), .slice r1.a r1.n r1.c, .slice r2.a r2.n r2.c, .bool q.run.skip, .bool q.run.paged, .int .i32 q.run.page, .bool q.run.resumed, .int .i64 q.run.state.kind, .slice r3.a r3.n r3.c, .bool q.run.serially, .int .u16 (q.run.serial : Int), .bool q.run.timed, .int .i64 q.run.time, .slice ev.a ev.n ev.c, .int .i64 q.token.kind, .slice t.a t.n t.c, .int .u8 (q.kind : Int), .slice al.a al.n al.c]
def zeroQ : List Value := [Value.int .u8 0, .slice none 0 0, .string ⟨#[]⟩, .slice none 0 0, .int .u16 0, .slice none 0 0, .slice none 0 0, .bool false, .bool false, .int .i32 0, .bool false, .int .i64 0, .slice none 0 0, .bool false, .int .u16 0, .bool false, .int .i64 0, .slice none 0 0, .int .i64 0, .slice none 0 0, .int .u8 0, .slice none 0 0]
/-- what a request's rows read as -/
structure RqR (S : Nat → Prop) (w : World) (q : Rq) (o i r1 r2 r3 ev t al : Slc) : Prop where
  options : Arr 2 pairP S w o.a o.n o.c q.options
  text : q.text.length ≤ 9223372036854775807
  ident : Sl S w i.a i.n i.c q.ident
  run : ParR S w r1.a r1.n r1.c r2.a r2.n r2.c r3.a r3.n r3.c q.run.values q.run.names q.run.state.bytes
  events : Arr 1 strP S w ev.a ev.n ev.c q.events
  token : Sl S w t.a t.n t.c q.token.bytes
  all : Arr 4 (stmP S w) S w al.a al.n al.c q.all
theorem goesArrS {A : Option Addr} {n c : Nat} {l : List Stm} : Goes fun S w => Arr 4 (stmP S w) S w A n c l :=
  ⟨fun h hs hk => (goesArr.keep h hs hk).imp fun x _ v hp => (goesStm x v).keep hp hs hk, fun h hS => (goesArr.mono h hS).imp fun x _ v hp => (goesStm x v).mono hp hS⟩
theorem goesRq {q : Rq} {o i r1 r2 r3 ev t al : Slc} : Goes fun S w => RqR S w q o i r1 r2 r3 ev t al :=
  ⟨fun h hs hk => ⟨goesArr.keep h.1 hs hk, h.2, goesSl.keep h.3 hs hk, goesPar.keep h.4 hs hk, goesArr.keep h.5 hs hk, goesSl.keep h.6 hs hk, goesArrS.keep h.7 hs hk⟩,
    fun h hS => ⟨goesArr.mono h.1 hS, h.2, goesSl.mono h.3 hS, goesPar.mono h.4 hS, goesArr.mono h.5 hS, goesSl.mono h.6 hS, goesArrS.mono h.7 hS⟩⟩
theorem rqR_none {S : Nat → Prop} {w : World} (n : Nat) : RqR S w (Rq.of n) .z .z .z .z .z .z .z .z := ⟨Arr.nil, Nat.zero_le _, Sl.nil, ⟨Arr.nil, Arr.nil, Sl.nil⟩, Arr.nil, Sl.nil, Arr.nil⟩
abbrev mk1 (l : List (B × B)) : Rq := { Rq.of 1 with options := l }
abbrev mk9 (s : B) : Rq := { Rq.of 9 with text := s }
abbrev mk11 (l : List B) : Rq := { Rq.of 11 with events := l }
abbrev mk15 (v : Val) : Rq := { Rq.of 15 with token := v }
abbrev mk7 (s : B) (p : Par) : Rq := { Rq.of 7 with text := s, run := p }
abbrev mk10 (s : B) (p : Par) : Rq := { Rq.of 10 with ident := s, run := p }
abbrev mk13 (k : Nat) (l : List Stm) (p : Par) : Rq := { Rq.of 13 with kind := k, all := l, run := p }
def rqOf : Except Int Rq → Rq | .ok q => q | .error _ => Rq.none
def erOf : Except Int Rq → Int | .ok _ => 0 | .error e => e
theorem gp_map {α : Type} {g : B → Res α} {mk : α → Rq} {op : Nat} (h : getParts op = fun b => bindR (g b) fun x r => .ok (mk x, r)) (d : α) (s : Wr) : gR (getParts op) s = gR g s ∧ Tie (getParts op) s (mk (gV d g s)) := by
  rw [h]
  refine ⟨by rw [gR_bind d, gR_pure], tie_bind (d := d) (tie_pure _ _)⟩
theorem gp_run {g : B → Res B} {mk : B → Par → Rq} {op : Nat} {bt : Bool} (h : getParts op = fun b => bindR (g b) fun s r => bindR (getRun bt r) fun p r => .ok (mk s p, r)) (s : Wr) {p : Par} (hp : Tie (getRun bt) (gR g s) p) : gR (getParts op) s = gR (getRun bt) (gR g s) ∧ Tie (getParts op) s (mk (gV [] g s) p) := by
  rw [h]
  refine ⟨by rw [gR_bind [], gR_bindT hp, gR_pure], tie_bind (d := []) (tie_bindT hp (tie_pure _ _))⟩
theorem gp_batch {s s1 s2 s3 : Wr} {k n : Nat} {l : List Stm} {p : Par} (hk : k = gV 0 (getN 1) s) (h1 : s1 = gR (getN 1) s) (h2 : s2 = mustR (decide (k ≤ 2)) 11 s1) (hn : n = gV 0 (getN 2) s2) (h3 : s3 = gR (getN 2) s2)
    (hl : Tie (getsM getStm n) s3 l) (hp : Tie (getRun true) (gR (getsM getStm n) s3) p) : gR (getParts 13) s = gR (getRun true) (gR (getsM getStm n) s3) ∧ Tie (getParts 13) s { Rq.of 13 with kind := k, all := l, run := p } := by
  have e : getParts 13 = fun b => bindR (getN 1 b) fun k r => if 2 < k then .error 11 else bindR (getAll r) fun l r => bindR (getRun true r) fun p r => .ok ({ Rq.of 13 with kind := k, all := l, run := p }, r) := rfl
  have ea : getAll = fun b => bindR (getN 2 b) fun n r => getsM getStm n r := rfl
  have hf : ∀ b : B, (if 2 < k then (.error 11 : Res Rq) else bindR (getAll b) fun l r => bindR (getRun true r) fun p r => .ok ({ Rq.of 13 with kind := k, all := l, run := p }, r)) = if decide (k ≤ 2) = false then .error 11 else bindR (getAll b) fun l r => bindR (getRun true r) fun p r => .ok ({ Rq.of 13 with kind := k, all := l, run := p }, r) := by
    intro b
    by_cases hk1 : k ≤ 2
    · rw [if_neg (by omega : ¬ 2 < k), if_neg (by simp [hk1])]
    · rw [if_pos (by omega), if_pos (by simp [hk1])]
  have hta : Tie getAll s2 l := by
    rw [ea]
    refine tie_bind (d := 0) ?_
    rw [← hn, ← h3]
    exact hl
  have hga : gR getAll s2 = gR (getsM getStm n) s3 := by rw [ea, gR_bind 0, ← hn, ← h3]
  constructor
  · rw [e, gR_bind 0, ← hk, ← h1]
    simp only [hf]
    rw [gR_must, ← h2, gR_bindT hta, hga, gR_bindT hp, gR_pure]
  · rw [e]
    refine tie_bind (d := 0) ?_
    rw [← hk, ← h1]
    simp only [hf]
    refine tie_must ?_
    rw [← h2]
    refine tie_bindT hta ?_
    rw [hga]
    exact tie_bindT hp (tie_pure _ _)
theorem gq_err {op : Nat} {bs : B} {e : Int} (h : (.error e : Wr) = gR (getParts op) (.ok bs)) : getRq op bs = .error e := by
  unfold getRq
  cases hq : getParts op bs with
  | error e' => rw [gR_err hq] at h; injection h with h; rw [h]
  | ok p => rw [gR_ok hq] at h; cases h
theorem gq_rest {op : Nat} {bs cur : B} (h : (.ok cur : Wr) = gR (getParts op) (.ok bs)) (hc : cur.length ≠ 0) : getRq op bs = .error 23 := by
  unfold getRq
  cases hq : getParts op bs with
  | error e' => rw [gR_err hq] at h; cases h
  | ok p => rw [gR_ok hq] at h; injection h with h; obtain ⟨x, r⟩ := p; simp only at h ⊢; rw [← h, if_neg hc]
theorem gq_ok {op : Nat} {bs cur : B} {q : Rq} (h : (.ok cur : Wr) = gR (getParts op) (.ok bs)) (hc : cur.length = 0) (ht : Tie (getParts op) (.ok bs) q) : getRq op bs = .ok q := by
  unfold getRq
  cases hq : getParts op bs with
  | error e' => rw [gR_err hq] at h; cases h
  | ok p => rw [gR_ok hq] at h; injection h with h; obtain ⟨x, r⟩ := p; rw [ht bs x r rfl hq]; simp only at h ⊢; rw [← h, if_pos hc]
theorem gq_not {op : Nat} {bs : B} (h : ¬ (op = 1 ∨ op = 5 ∨ op = 7 ∨ op = 9 ∨ op = 10 ∨ op = 11 ∨ op = 15 ∨ op = 13)) : getRq op bs = .error 22 := by
  have e : getParts op bs = .error 22 := by
    unfold getParts
    rw [if_neg (by omega), if_neg (by omega), if_neg (by omega), if_neg (by omega), if_neg (by omega), if_neg (by omega), if_neg (by omega), if_neg (by omega)]
  unfold getRq
  rw [e]
theorem long_le {S : Nat → Prop} {w : World} {X : Nat} {s : Wr} (h : RdAt S w X s) : (gV [] getLong s).length ≤ 9223372036854775807 := by
  have := gV_text getLong (fun b x r h => by obtain ⟨y, h1, h2⟩ := long_fore b x r h; injection h1 with h1; rw [← h2, ← h1]; unfold long; simp only [List.length_append]; omega) s (fun cur e => by obtain ⟨A, n, c, _, _, _, h3, _⟩ := h; have := (h3 _ e).2; have := (h3 _ e).1.len; omega)
  omega
theorem GetI.puts {S : Nat → Prop} {w : World} {X P R : Nat} {s : Wr} {vs vs' vz : List Value} {F : (Nat → Prop) → World → Prop} {wx w' : World} (h : GetI S w X P R s vs vz F wx) (G : Goes F) (hb : Bx (fun b => b = P) w' P vs') (hg : wx.grownBy w' (some P)) (hX : P ≠ X) (hP : w.heap.size ≤ P) (hR : R ≠ P) : GetI S w X P R s vs' vz F w' :=
  ⟨h.rd.grown hg (fun e => hX (by injection e)) (fun b hb e => by injection e with e; have := hb.2; omega), hb, goesBx.grown h.res hg (fun b e => e ▸ hR), grow_seq h.gr hg fun j e => by injection e with e; left; omega, G.grown h.par hg (fun b hb => hb.2.1)⟩
theorem step_appX {w : World} {ops : Array Oper} {o : Oper} {a : Act} {K : Act → World → Prop} {Q : Exit → Act → World → Prop} {E : Prop} (hgd : o.guard = none) {t e : TypeId} {k bytes : Nat} {z : Value} (T : Ty t e k bytes z) (s x : Operand)
    (ho : o.op = .call { callee := .builtin .append, args := #[s, x], argTypes := #[t, t] })
    {α : Type} {P P2 : α → List Value → Prop} {ρ : Nat → Nat} {r : Nat} (A : Option Addr) (n c : Nat) (l : List α) (hs : a.eval s = .slice A n c) (hown : OwnS e k P (Rl ρ r) w A n c l)
    (S : Nat → Prop) (A2 : Option Addr) (m c2 : Nat) (l2 : List α) (hx : a.eval x = .slice A2 m c2) (hr : Arr k P2 S w A2 m c2 l2) (hP : ∀ x v, P2 x v → ∀ u ∈ v, u.oneCell' = true) (h21 : ∀ x ∈ l2, ∀ v, P2 x v → P x v)
    (hbytes : (n + m) * bytes ≤ 140737488355328) (h63 : n + m ≤ maxLen)
    (h : ∀ A' n' c' w' ρ', ρ' = xt ρ w.heap.size r → OwnS e k P (Rl ρ' r) w' A' n' c' (l ++ l2) → Fr (Rl ρ r) w w' → K (a.put o.dst (.slice A' n' c')) w') :
    if Region.wanted o (yielded ops a.tmps) = true then Oper.wp Try.prog o a w K Q else E :=
  step_appR hgd T s x ho A n c l hs hown S A2 m c2 l2 hx hr hP h21 hbytes h63 fun A' n' c' w' h1 h2 => h A' n' c' w' _ rfl h1 h2
theorem GetI.after {S : Nat → Prop} {w : World} {X P R : Nat} {s : Wr} {vs vz : List Value} {F : (Nat → Prop) → World → Prop} {wx w' : World} (h : GetI S w X P R s vs vz F wx) (G : Goes F) (hb : Below wx.heap.size wx w') : GetI S w X P R s vs vz F w' :=
  ⟨h.rd.after hb, goesBx.after h.box hb, goesBx.after h.res hb, grow_seq h.gr (grow_of_below (row := none) hb) (fun j e => by cases e), G.after h.par hb⟩
set_option maxHeartbeats 8000000 in
set_option maxRecDepth 100000 in
theorem rget8_any {S : Nat → Prop} {A : Option Addr} {m c op : Nat} {bs : B} {w : World} (hs : Sl S w A m c bs) (hm : m ≤ 140737488355328) (hop : op < 256) (r : Except Int Rq) (hr : getRq op bs = r) :
    Calls Try.prog 14 #[.int .u8 (op : Int), .slice A m c] w fun e w' => ∃ o i r1 r2 r3 ev t al, e = .returned (.tuple #[.agg (rqV (rqOf r) o i r1 r2 r3 ev t al).toArray, .int .i64 (erOf r)]) ∧ RqR (fun b => w.heap.size ≤ b) w' (rqOf r) o i r1 r2 r3 ev t al ∧ Below w.heap.size w w' := by
  have HS := Lib.hid hs; clear hs
  have HR := Lib.hid hr; clear hr
  go_enter Try.func14, Try.ntmps14
  go_upto_block 0 with (first | (refine wpList_built (by rfl) 33 _ (by rfl) #[.int .u8 (op : Int), .slice none 0 0, .string ⟨#[]⟩, .slice none 0 0, .int .u16 0, .slice none 0 0, .slice none 0 0, .bool false, .bool false, .int .i32 0, .bool false, .int .i64 0, .slice none 0 0, .bool false, .int .u16 0, .bool false, .int .i64 0, .slice none 0 0, .int .i64 0, .slice none 0 0, .int .u8 0, .slice none 0 0] (by kernel_rfl) ?_) | (refine wpList_store_new (by rfl) 33 _ _ (by rfl) _ _ _ _ (by rfl) (by rfl) (by simp) (by rfl) (by kernel_rfl) (by rfl) (by rfl) ?_; intro w1 hw1; have HW1 := Lib.hid hw1; clear hw1))
  have HS9 : Hid (∀ b, S b ∧ b < w.heap.size → b ≠ w.heap.size + 1) := Lib.hid (fun b h => by have := h.2; omega)
  have hw1 := HW1.out
  have I1 : Hid (GetI S w (w.heap.size + 1) (w.heap.size + 1 + 1) w.heap.size (.ok bs) [.int .u8 (op : Int), .slice none 0 0, .string ⟨#[]⟩, .slice none 0 0, .int .u16 0, .slice none 0 0, .slice none 0 0, .bool false, .bool false, .int .i32 0, .bool false, .int .i64 0, .slice none 0 0, .bool false, .int .u16 0, .bool false, .int .i64 0, .slice none 0 0, .int .i64 0, .slice none 0 0, .int .u8 0, .slice none 0 0] zeroQ (fun S w => RqR S w (Rq.of op) .z .z .z .z .z .z .z .z) w1) := by
    have b1 : Below w.heap.size w (w.alloc (.cells #[.int .u8 0, .slice none 0 0, .string ⟨#[]⟩, .slice none 0 0, .int .u16 0, .slice none 0 0, .slice none 0 0, .bool false, .bool false, .int .i32 0, .bool false, .int .i64 0, .slice none 0 0, .bool false, .int .u16 0, .bool false, .int .i64 0, .slice none 0 0, .int .i64 0, .slice none 0 0, .int .u8 0, .slice none 0 0] 33)) := (Below.refl _ _).alloc (Nat.le_refl _) _
    have b2 : Below (w.alloc (.cells #[.int .u8 0, .slice none 0 0, .string ⟨#[]⟩, .slice none 0 0, .int .u16 0, .slice none 0 0, .slice none 0 0, .bool false, .bool false, .int .i32 0, .bool false, .int .i64 0, .slice none 0 0, .bool false, .int .u16 0, .bool false, .int .i64 0, .slice none 0 0, .int .i64 0, .slice none 0 0, .int .u8 0, .slice none 0 0] 33)).heap.size (w.alloc (.cells #[.int .u8 0, .slice none 0 0, .string ⟨#[]⟩, .slice none 0 0, .int .u16 0, .slice none 0 0, .slice none 0 0, .bool false, .bool false, .int .i32 0, .bool false, .int .i64 0, .slice none 0 0, .bool false, .int .u16 0, .bool false, .int .i64 0, .slice none 0 0, .int .i64 0, .slice none 0 0, .int .u8 0, .slice none 0 0] 33)) ((w.alloc (.cells #[.int .u8 0, .slice none 0 0, .string ⟨#[]⟩, .slice none 0 0, .int .u16 0, .slice none 0 0, .slice none 0 0, .bool false, .bool false, .int .i32 0, .bool false, .int .i64 0, .slice none 0 0, .bool false, .int .u16 0, .bool false, .int .i64 0, .slice none 0 0, .int .i64 0, .slice none 0 0, .int .u8 0, .slice none 0 0] 33)).alloc (.cells #[.slice A m c, .int .i64 0] 90)) := (Below.refl _ _).alloc (Nat.le_refl _) _
    have b3 : Below ((w.alloc (.cells #[.int .u8 0, .slice none 0 0, .string ⟨#[]⟩, .slice none 0 0, .int .u16 0, .slice none 0 0, .slice none 0 0, .bool false, .bool false, .int .i32 0, .bool false, .int .i64 0, .slice none 0 0, .bool false, .int .u16 0, .bool false, .int .i64 0, .slice none 0 0, .int .i64 0, .slice none 0 0, .int .u8 0, .slice none 0 0] 33)).alloc (.cells #[.slice A m c, .int .i64 0] 90)).heap.size ((w.alloc (.cells #[.int .u8 0, .slice none 0 0, .string ⟨#[]⟩, .slice none 0 0, .int .u16 0, .slice none 0 0, .slice none 0 0, .bool false, .bool false, .int .i32 0, .bool false, .int .i64 0, .slice none 0 0, .bool false, .int .u16 0, .bool false, .int .i64 0, .slice none 0 0, .int .i64 0, .slice none 0 0, .int .u8 0, .slice none 0 0] 33)).alloc (.cells #[.slice A m c, .int .i64 0] 90)) w1 := by rw [hw1]; exact (Below.refl _ _).alloc (Nat.le_refl _) _
    have k1 := goesBx.after (Bx.alloc w #[.int .u8 0, .slice none 0 0, .string ⟨#[]⟩, .slice none 0 0, .int .u16 0, .slice none 0 0, .slice none 0 0, .bool false, .bool false, .int .i32 0, .bool false, .int .i64 0, .slice none 0 0, .bool false, .int .u16 0, .bool false, .int .i64 0, .slice none 0 0, .int .i64 0, .slice none 0 0, .int .u8 0, .slice none 0 0] 33 (S := fun b => b = w.heap.size) rfl rfl) b2
    have k2 := goesBx.after (Bx.alloc (w.alloc (.cells #[.int .u8 0, .slice none 0 0, .string ⟨#[]⟩, .slice none 0 0, .int .u16 0, .slice none 0 0, .slice none 0 0, .bool false, .bool false, .int .i32 0, .bool false, .int .i64 0, .slice none 0 0, .bool false, .int .u16 0, .bool false, .int .i64 0, .slice none 0 0, .int .i64 0, .slice none 0 0, .int .u8 0, .slice none 0 0] 33)) #[.slice A m c, .int .i64 0] 90 (X := w.heap.size + 1) (S := fun b => b = w.heap.size + 1) (by simp) (by simp)) b3
    have k3 : Bx (fun b => b = (w.heap.size + 1 + 1)) w1 (w.heap.size + 1 + 1) [.int .u8 (op : Int), .slice none 0 0, .string ⟨#[]⟩, .slice none 0 0, .int .u16 0, .slice none 0 0, .slice none 0 0, .bool false, .bool false, .int .i32 0, .bool false, .int .i64 0, .slice none 0 0, .bool false, .int .u16 0, .bool false, .int .i64 0, .slice none 0 0, .int .i64 0, .slice none 0 0, .int .u8 0, .slice none 0 0] := by
      rw [hw1]
      exact Bx.alloc _ #[.int .u8 (op : Int), .slice none 0 0, .string ⟨#[]⟩, .slice none 0 0, .int .u16 0, .slice none 0 0, .slice none 0 0, .bool false, .bool false, .int .i32 0, .bool false, .int .i64 0, .slice none 0 0, .bool false, .int .u16 0, .bool false, .int .i64 0, .slice none 0 0, .int .i64 0, .slice none 0 0, .int .u8 0, .slice none 0 0] 33 (X := (w.heap.size + 1 + 1)) (S := fun b => b = (w.heap.size + 1 + 1)) (by simp) (by simp)
    have hg := grow_seq (grow_seq (grow_of_below (row := some (w.heap.size + 1)) b1) (grow_of_below (row := some (w.heap.size + 1)) b2) fun j e => .inr e) (grow_of_below (row := some (w.heap.size + 1)) b3) fun j e => .inr e
    exact ⟨⟨A, m, c, k2.c 0 _ rfl, k2.c 1 _ rfl, k2.fr, fun cur e => by injection e with e; subst e; exact ⟨goesSl.keep ((HS.out.lt).mono fun b hb _ => ⟨hb.1, hb.2⟩) hg.size fun b hb _ => hg.block b hb.2 fun e => by injection e with e; have := hb.2; omega, hm⟩, fun e h => by cases h⟩, k3, goesBx.after k1 b3, hg, rqR_none _⟩
  clear hw1 HW1
  by_cases hk : op = 1 ∨ op = 5 ∨ op = 7 ∨ op = 9 ∨ op = 10 ∨ op = 11 ∨ op = 15 ∨ op = 13
  · obtain ⟨sF, hsF⟩ : ∃ s, s = gR (getParts op) (.ok bs) := ⟨_, rfl⟩
    have HSF := Lib.hid hsF; clear hsF
    go_cut [] (fun wx => ∃ q o i r1 r2 r3 ev t al, Hid (GetI S w (w.heap.size + 1) (w.heap.size + 1 + 1) w.heap.size sF (rqV q o i r1 r2 r3 ev t al) zeroQ (fun S w => RqR S w q o i r1 r2 r3 ev t al) wx) ∧ Hid (Tie (getParts op) (.ok bs) q))
    case first =>
      rcases hk with rfl | rfl | rfl | rfl | rfl | rfl | rfl | rfl
      · skip
        have q2 := I1.out.box.lt
        have q3 := I1.out.res.lt
        have k1 := I1.out.box.c 1 _ rfl
        have z1 := I1.out.box.fr 1
        go_wp2_with fail
        refine (rdx_pairs I1.out.rd HS9.out).mono ?_
        rintro e2 w2 ⟨⟨B1, m1, d1, rfl, hv2⟩, ha2, hg2⟩
        have HG := Lib.hid (gp_map (op := 1) (g := getL pairR) (mk := mk1) rfl [] (.ok bs))
        obtain ⟨x, hx⟩ : ∃ x, x = gV [] (getL pairR) (.ok bs) := ⟨_, rfl⟩
        rw [← hx] at HG hv2
        clear hx
        have e2 : gR (getL pairR) (.ok bs) = sF := by rw [HSF.out]; exact HG.out.1.symm
        rw [e2] at ha2
        have I2 := Lib.hid ((I1.out.step goesRq (by omega) (by omega) ha2 hg2).to (F' := fun S w => RqR S w (mk1 x) ⟨B1,m1,d1⟩ .z .z .z .z .z .z .z) ⟨goesArr.mono hv2 (fun b hb _ => I1.out.new hb), Nat.zero_le _, Sl.nil, ⟨Arr.nil, Arr.nil, Sl.nil⟩, Arr.nil, Sl.nil, Arr.nil⟩)
        clear e2 ha2 hg2 q2 q3 k1 z1
        have q2 := I2.out.box.lt
        have q3 := I2.out.res.lt
        have k1 := I2.out.box.c 1 _ rfl
        have z1 := I2.out.box.fr 1
        have I30 := Lib.hid (I2.out.put goesRq (by omega) (by omega) (by omega) 1 (.slice B1 m1 d1) (by show 1 < 22; decide))
        go_wp2_with fail
        go_meet
        exact ⟨mk1 x, ⟨B1,m1,d1⟩, .z, .z, .z, .z, .z, .z, .z, I30, HG.out.2⟩
      · skip
        go_wp2_with fail
        go_meet
        have e2 : sF = .ok bs := HSF.out
        exact ⟨Rq.of 5, .z, .z, .z, .z, .z, .z, .z, .z, e2 ▸ I1, fun cur y rest h1 h2 => by injection h2 with h2; injection h2 with h2⟩
      · skip
        have q2 := I1.out.box.lt
        have q3 := I1.out.res.lt
        have k2 := I1.out.box.c 2 _ rfl
        have z2 := I1.out.box.fr 2
        go_wp2_with fail
        refine (rdx_long I1.out.rd HS9.out).mono ?_
        rintro e2 w2 ⟨rfl, ha2, hg2⟩
        have HL := Lib.hid (long_le I1.out.rd)
        obtain ⟨x, hx⟩ : ∃ x, x = gV [] (getLong) (.ok bs) := ⟨_, rfl⟩
        rw [← hx] at HL ⊢
        have HX := Lib.hid hx; clear hx
        have I2 := Lib.hid ((I1.out.step goesRq (by omega) (by omega) ha2 hg2).to (F' := fun S w => RqR S w (mk7 x Par.none) .z .z .z .z .z .z .z .z) ⟨Arr.nil, HL.out, Sl.nil, ⟨Arr.nil, Arr.nil, Sl.nil⟩, Arr.nil, Sl.nil, Arr.nil⟩)
        clear ha2 hg2 q2 q3 k2 z2
        have q2 := I2.out.box.lt
        have q3 := I2.out.res.lt
        have k2 := I2.out.box.c 2 _ rfl
        have z2 := I2.out.box.fr 2
        have I3 := Lib.hid (I2.out.put goesRq (by omega) (by omega) (by omega) 2 (.string (str x)) (by show 2 < 22; decide))
        go_wp2_with fail
        refine (rrun_any (batch := false) I3.out.rd HS9.out).mono ?_
        rintro e4 w4 ⟨p, A1, n1, c1, A2, n2, c2, A3, n3, c3, rfl, hp4, ha4, hg4, ht4⟩
        have HG := Lib.hid (gp_run (op := 7) (g := getLong) (mk := mk7) rfl (.ok bs) ht4)
        rw [← HX.out] at HG
        have e2 : gR (getRun false) (gR (getLong) (.ok bs)) = sF := by rw [HSF.out]; exact HG.out.1.symm
        rw [e2] at ha4
        have I4 := Lib.hid ((I3.out.step goesRq (by omega) (by omega) ha4 hg4).to (F' := fun S w => RqR S w (mk7 x p) .z .z ⟨A1,n1,c1⟩ ⟨A2,n2,c2⟩ ⟨A3,n3,c3⟩ .z .z .z) ⟨Arr.nil, HL.out, Sl.nil, goesPar.mono hp4 (fun b hb _ => I3.out.new hb), Arr.nil, Sl.nil, Arr.nil⟩)
        clear e2 ha4 hg4 hp4 ht4 q2 q3 k2 z2
        have q2 := I4.out.box.lt
        have q3 := I4.out.res.lt
        go_wp2_with (first | (refine wpList_storeB I4.out.box (by rfl) 30 _ _ (by rfl) 4 (parV p A1 n1 c1 A2 n2 c2 A3 n3 c3) (by rfl) (by rfl) (by kernel_rfl) (by show 4 + 13 ≤ 22; decide) (by rfl) ?_; intro w5 hb5 hg5))
        have I5 := Lib.hid (I4.out.puts goesRq hb5 hg5 (by omega) (by omega) (by omega))
        go_meet
        exact ⟨mk7 x p, .z, .z, ⟨A1,n1,c1⟩, ⟨A2,n2,c2⟩, ⟨A3,n3,c3⟩, .z, .z, .z, I5, HG.out.2⟩
      · skip
        have q2 := I1.out.box.lt
        have q3 := I1.out.res.lt
        have k2 := I1.out.box.c 2 _ rfl
        have z2 := I1.out.box.fr 2
        go_wp2_with fail
        refine (rdx_long I1.out.rd HS9.out).mono ?_
        rintro e2 w2 ⟨rfl, ha2, hg2⟩
        have HL := Lib.hid (long_le I1.out.rd)
        have HG := Lib.hid (gp_map (op := 9) (g := getLong) (mk := mk9) rfl [] (.ok bs))
        obtain ⟨x, hx⟩ : ∃ x, x = gV [] (getLong) (.ok bs) := ⟨_, rfl⟩
        rw [← hx] at HG HL ⊢
        clear hx
        have e2 : gR (getLong) (.ok bs) = sF := by rw [HSF.out]; exact HG.out.1.symm
        rw [e2] at ha2
        have I2 := Lib.hid ((I1.out.step goesRq (by omega) (by omega) ha2 hg2).to (F' := fun S w => RqR S w (mk9 x) .z .z .z .z .z .z .z .z) ⟨Arr.nil, HL.out, Sl.nil, ⟨Arr.nil, Arr.nil, Sl.nil⟩, Arr.nil, Sl.nil, Arr.nil⟩)
        clear e2 ha2 hg2 q2 q3 k2 z2
        have q2 := I2.out.box.lt
        have q3 := I2.out.res.lt
        have k2 := I2.out.box.c 2 _ rfl
        have z2 := I2.out.box.fr 2
        have I30 := Lib.hid (I2.out.put goesRq (by omega) (by omega) (by omega) 2 (.string (str x)) (by show 2 < 22; decide))
        go_wp2_with fail
        go_meet
        exact ⟨mk9 x, .z, .z, .z, .z, .z, .z, .z, .z, I30, HG.out.2⟩
      · skip
        have q2 := I1.out.box.lt
        have q3 := I1.out.res.lt
        have k3 := I1.out.box.c 3 _ rfl
        have z3 := I1.out.box.fr 3
        go_wp2_with fail
        refine (rshort8_any I1.out.rd HS9.out).mono ?_
        rintro e2 w2 ⟨⟨B1, m1, d1, rfl, hv2⟩, ha2, hg2⟩
        obtain ⟨x, hx⟩ : ∃ x, x = gV [] (getText) (.ok bs) := ⟨_, rfl⟩
        rw [← hx] at hv2
        have HX := Lib.hid hx; clear hx
        have I2 := Lib.hid ((I1.out.step goesRq (by omega) (by omega) ha2 hg2).to (F' := fun S w => RqR S w (mk10 x Par.none) .z ⟨B1,m1,d1⟩ .z .z .z .z .z .z) ⟨Arr.nil, Nat.zero_le _, goesSl.mono hv2 (fun b hb _ => I1.out.new hb), ⟨Arr.nil, Arr.nil, Sl.nil⟩, Arr.nil, Sl.nil, Arr.nil⟩)
        clear ha2 hg2 q2 q3 k3 z3
        have q2 := I2.out.box.lt
        have q3 := I2.out.res.lt
        have k3 := I2.out.box.c 3 _ rfl
        have z3 := I2.out.box.fr 3
        have I3 := Lib.hid (I2.out.put goesRq (by omega) (by omega) (by omega) 3 (.slice B1 m1 d1) (by show 3 < 22; decide))
        go_wp2_with fail
        refine (rrun_any (batch := false) I3.out.rd HS9.out).mono ?_
        rintro e4 w4 ⟨p, A1, n1, c1, A2, n2, c2, A3, n3, c3, rfl, hp4, ha4, hg4, ht4⟩
        have HG := Lib.hid (gp_run (op := 10) (g := getText) (mk := mk10) rfl (.ok bs) ht4)
        rw [← HX.out] at HG
        have e2 : gR (getRun false) (gR (getText) (.ok bs)) = sF := by rw [HSF.out]; exact HG.out.1.symm
        rw [e2] at ha4
        have I4 := Lib.hid ((I3.out.step goesRq (by omega) (by omega) ha4 hg4).to (F' := fun S w => RqR S w (mk10 x p) .z ⟨B1,m1,d1⟩ ⟨A1,n1,c1⟩ ⟨A2,n2,c2⟩ ⟨A3,n3,c3⟩ .z .z .z) ⟨Arr.nil, Nat.zero_le _, (goesRq.grown I3.out.par hg4 (fun b hb => hb.2.2.2)).ident, goesPar.mono hp4 (fun b hb _ => I3.out.new hb), Arr.nil, Sl.nil, Arr.nil⟩)
        clear e2 ha4 hg4 hp4 ht4 q2 q3 k3 z3
        have q2 := I4.out.box.lt
        have q3 := I4.out.res.lt
        go_wp2_with (first | (refine wpList_storeB I4.out.box (by rfl) 30 _ _ (by rfl) 4 (parV p A1 n1 c1 A2 n2 c2 A3 n3 c3) (by rfl) (by rfl) (by kernel_rfl) (by show 4 + 13 ≤ 22; decide) (by rfl) ?_; intro w5 hb5 hg5))
        have I5 := Lib.hid (I4.out.puts goesRq hb5 hg5 (by omega) (by omega) (by omega))
        go_meet
        exact ⟨mk10 x p, .z, ⟨B1,m1,d1⟩, ⟨A1,n1,c1⟩, ⟨A2,n2,c2⟩, ⟨A3,n3,c3⟩, .z, .z, .z, I5, HG.out.2⟩
      · skip
        have q2 := I1.out.box.lt
        have q3 := I1.out.res.lt
        have k17 := I1.out.box.c 17 _ rfl
        have z17 := I1.out.box.fr 17
        go_wp2_with fail
        refine (rdx_texts I1.out.rd HS9.out).mono ?_
        rintro e2 w2 ⟨⟨B1, m1, d1, rfl, hv2⟩, ha2, hg2⟩
        have HG := Lib.hid (gp_map (op := 11) (g := getTexts) (mk := mk11) rfl [] (.ok bs))
        obtain ⟨x, hx⟩ : ∃ x, x = gV [] (getTexts) (.ok bs) := ⟨_, rfl⟩
        rw [← hx] at HG hv2
        clear hx
        have e2 : gR (getTexts) (.ok bs) = sF := by rw [HSF.out]; exact HG.out.1.symm
        rw [e2] at ha2
        have I2 := Lib.hid ((I1.out.step goesRq (by omega) (by omega) ha2 hg2).to (F' := fun S w => RqR S w (mk11 x) .z .z .z .z .z ⟨B1,m1,d1⟩ .z .z) ⟨Arr.nil, Nat.zero_le _, Sl.nil, ⟨Arr.nil, Arr.nil, Sl.nil⟩, goesArr.mono hv2 (fun b hb _ => I1.out.new hb), Sl.nil, Arr.nil⟩)
        clear e2 ha2 hg2 q2 q3 k17 z17
        have q2 := I2.out.box.lt
        have q3 := I2.out.res.lt
        have k17 := I2.out.box.c 17 _ rfl
        have z17 := I2.out.box.fr 17
        have I30 := Lib.hid (I2.out.put goesRq (by omega) (by omega) (by omega) 17 (.slice B1 m1 d1) (by show 17 < 22; decide))
        go_wp2_with fail
        go_meet
        exact ⟨mk11 x, .z, .z, .z, .z, .z, ⟨B1,m1,d1⟩, .z, .z, I30, HG.out.2⟩
      · skip
        have q2 := I1.out.box.lt
        have q3 := I1.out.res.lt
        have k18 := I1.out.box.c 18 _ rfl
        have z18 := I1.out.box.fr 18
        have k19 := I1.out.box.c 19 _ rfl
        have z19 := I1.out.box.fr 19
        go_wp2_with fail
        refine (rdx_value I1.out.rd HS9.out).mono ?_
        rintro e2 w2 ⟨⟨B1, m1, d1, rfl, hv2⟩, ha2, hg2⟩
        have HG := Lib.hid (gp_map (op := 15) (g := getValue) (mk := mk15) rfl Val.none (.ok bs))
        obtain ⟨x, hx⟩ : ∃ x, x = gV Val.none (getValue) (.ok bs) := ⟨_, rfl⟩
        rw [← hx] at HG hv2 ⊢
        clear hx
        have e2 : gR (getValue) (.ok bs) = sF := by rw [HSF.out]; exact HG.out.1.symm
        rw [e2] at ha2
        have I2 := Lib.hid ((I1.out.step goesRq (by omega) (by omega) ha2 hg2).to (F' := fun S w => RqR S w (mk15 x) .z .z .z .z .z .z ⟨B1,m1,d1⟩ .z) ⟨Arr.nil, Nat.zero_le _, Sl.nil, ⟨Arr.nil, Arr.nil, Sl.nil⟩, Arr.nil, goesSl.mono hv2 (fun b hb _ => I1.out.new hb), Arr.nil⟩)
        clear e2 ha2 hg2 q2 q3 k18 z18 k19 z19
        have q2 := I2.out.box.lt
        have q3 := I2.out.res.lt
        have k18 := I2.out.box.c 18 _ rfl
        have z18 := I2.out.box.fr 18
        have k19 := I2.out.box.c 19 _ rfl
        have z19 := I2.out.box.fr 19
        have I30 := Lib.hid (I2.out.put goesRq (by omega) (by omega) (by omega) 18 (.int .i64 x.kind) (by show 18 < 22; decide))
        have I31 := Lib.hid (I30.out.put goesRq (by omega) (by omega) (by omega) 19 (.slice B1 m1 d1) (by show 19 < 22; decide))
        go_wp2_with fail
        go_meet
        exact ⟨mk15 x, .z, .z, .z, .z, .z, .z, ⟨B1,m1,d1⟩, .z, I31, HG.out.2⟩
      · skip
        have q2 := I1.out.box.lt
        have q3 := I1.out.res.lt
        have k20 := I1.out.box.c 20 _ rfl
        have z20 := I1.out.box.fr 20
        go_wp2_with fail
        refine (rnumq_any (k := 1) I1.out.rd HS9.out (by omega) (by omega)).mono ?_
        rintro e2 w2 ⟨rfl, ha2, hg2⟩
        obtain ⟨k, hk⟩ : ∃ k, k = gV 0 (getN 1) (.ok bs) := ⟨_, rfl⟩
        obtain ⟨s1, hs1⟩ : ∃ x, x = gR (getN 1) (.ok bs) := ⟨_, rfl⟩
        have hk256 : k < 256 := by rw [hk]; exact gV_lt (n := 1) _
        rw [← hk]
        rw [← hs1] at ha2
        have HKK := Lib.hid hk; clear hk
        have HS1 := Lib.hid hs1; clear hs1
        have I2 := Lib.hid ((I1.out.step goesRq (by omega) (by omega) ha2 hg2).to (F' := fun S w => RqR S w (mk13 k [] Par.none) .z .z .z .z .z .z .z .z) ⟨Arr.nil, Nat.zero_le _, Sl.nil, ⟨Arr.nil, Arr.nil, Sl.nil⟩, Arr.nil, Sl.nil, Arr.nil⟩)
        clear ha2 hg2 q2 q3 k20 z20
        have q2 := I2.out.box.lt
        have q3 := I2.out.res.lt
        have k20 := I2.out.box.c 20 _ rfl
        have z20 := I2.out.box.fr 20
        have I3 := Lib.hid (I2.out.put goesRq (by omega) (by omega) (by omega) 20 (.int .u8 (k : Int)) (by show 20 < 22; decide))
        go_wp2_with fail
        refine (rmust_any (er := 11) I3.out.rd HS9.out (by decide)).mono ?_
        rintro e3 w3 ⟨rfl, ha3, hg3⟩
        obtain ⟨s2, hs2⟩ : ∃ x, x = mustR (decide (k ≤ 2)) 11 s1 := ⟨_, rfl⟩
        have hdec : decide ((k : Int) ≤ 2) = decide (k ≤ 2) := by simp only [decide_eq_decide]; omega
        rw [hdec, ← hs2] at ha3
        have HS2 := Lib.hid hs2; clear hs2 hdec
        have I4 := Lib.hid (I3.out.step goesRq (by omega) (by omega) ha3 hg3)
        clear ha3 hg3 q2 q3 k20 z20
        have q2 := I4.out.box.lt
        have q3 := I4.out.res.lt
        go_wp2_with fail
        refine (rnumq_any (k := 2) I4.out.rd HS9.out (by omega) (by omega)).mono ?_
        rintro e4 w4 ⟨rfl, ha4, hg4⟩
        obtain ⟨M, hM⟩ : ∃ k, k = gV 0 (getN 2) s2 := ⟨_, rfl⟩
        obtain ⟨s3, hs3⟩ : ∃ x, x = gR (getN 2) s2 := ⟨_, rfl⟩
        have hM65 : M < 65536 := by rw [hM]; exact gV_lt (n := 2) _
        rw [← hM]
        rw [← hs3] at ha4
        have HM := Lib.hid hM; clear hM
        have HS3 := Lib.hid hs3; clear hs3
        have I5 : Hid (GetI S w (w.heap.size + 1) (w.heap.size + 1 + 1) w.heap.size s3 [.int .u8 ((13 : Nat) : Int), .slice none 0 0, .string ⟨#[]⟩, .slice none 0 0, .int .u16 0, .slice none 0 0, .slice none 0 0, .bool false, .bool false, .int .i32 0, .bool false, .int .i64 0, .slice none 0 0, .bool false, .int .u16 0, .bool false, .int .i64 0, .slice none 0 0, .int .i64 0, .slice none 0 0, .int .u8 (k : Int), .slice none 0 0] zeroQ (fun S w => RqR S w (mk13 k [] Par.none) .z .z .z .z .z .z .z .z) w4) := Lib.hid (I4.out.step goesRq (by omega) (by omega) ha4 hg4)
        clear ha4 hg4 q2 q3
        have q2 := I5.out.box.lt
        have q3 := I5.out.res.lt
        obtain ⟨ρ0, hρ0⟩ : ∃ ρ0, ρ0 = xt (fun b => if b = (w.heap.size + 1) then 9 else if b = (w.heap.size + 1 + 1) then 8 else 0) w4.heap.size 5 := ⟨_, rfl⟩
        have hρX : ρ0 (w.heap.size + 1) = 9 := by rw [hρ0, xt_lt (by omega), if_pos rfl]
        have hρP : ρ0 (w.heap.size + 1 + 1) = 8 := by rw [hρ0, xt_lt (by omega), if_neg (by omega), if_pos rfl]
        have HB1 : Hid (Bs ρ0 (fun b => b = (w.heap.size + 1) ∨ b = (w.heap.size + 1 + 1)) w4 w4) := Lib.hid ⟨fun b hb hT => by rw [hρ0, xt_lt hb, if_neg (fun e => hT (.inl e)), if_neg (fun e => hT (.inr e))], Fr.refl _ _⟩
        clear hρ0
        go_wp2_with fail
        go_loopw [8] (fun n wr => ∃ ρ j l st A2 m2 d2, j ≤ M ∧ n = .int .u64 ((M - j : Nat) : Int) ∧ Hid (l.length = j) ∧ Hid (OwnS 58 4 (stmP (Rl ρ 5) wr) (Rl ρ 4) wr A2 m2 d2 l) ∧ Hid (RdAt (fun b => S b ∧ b < w.heap.size) wr (w.heap.size + 1) st) ∧ Hid (Bs ρ (fun b => b = (w.heap.size + 1) ∨ b = (w.heap.size + 1 + 1)) w4 wr) ∧ Hid (Bx (fun b => b = (w.heap.size + 1 + 1)) wr (w.heap.size + 1 + 1) [.int .u8 ((13 : Nat) : Int), .slice none 0 0, .string ⟨#[]⟩, .slice none 0 0, .int .u16 0, .slice none 0 0, .slice none 0 0, .bool false, .bool false, .int .i32 0, .bool false, .int .i64 0, .slice none 0 0, .bool false, .int .u16 0, .bool false, .int .i64 0, .slice none 0 0, .int .i64 0, .slice none 0 0, .int .u8 (k : Int), .slice A2 m2 d2]) ∧ ρ (w.heap.size + 1) = 9 ∧ ρ (w.heap.size + 1 + 1) = 8 ∧ Hid (PrgG getStm M s3 j l st)) (fun n _ => (intOf n).toNat)
        case atStart => exact ⟨ρ0, 0, [], s3, none, 0, 0, Nat.zero_le _, by first | rfl | simp, rfl, OwnS.nil, Lib.hid I5.out.rd, HB1, Lib.hid I5.out.box, hρX, hρP, Lib.hid (PrgG.zero _ _ _)⟩
        case round =>
          obtain ⟨ρ, j, l, st, A2, m2, d2, hj, rfl, HL, HK2, HAr, HB, HBx, hρ9, hρ8, HP⟩ := hrel
          have hzr := HB.out.size
          have hxr : (w.heap.size + 1 + 1) < wr.heap.size := HBx.out.lt
          have hw44 : (w.heap.size + 1 + 1) < w4.heap.size := I5.out.box.lt
          clear q2 q3
          by_cases hlt2 : j < M
          · cases st with
            | error e =>
              obtain ⟨hst, hti⟩ := HP.out.fin (.inr ⟨e, rfl⟩)
              have hpos : 0 < M - j := by omega
              have hposI : (0 : Int) < ((M - j : Nat) : Int) := by omega
              have hne : e ≠ 0 := by obtain ⟨_, _, _, _, _, _, _, g4⟩ := HAr.out; exact g4 e rfl
              have hne2 : (e == 0) = false := by simpa using hne
              obtain ⟨AX, nX, cX, g0, g1, g2, g3, g4⟩ := HAr.out
              clear g0 g2 g3 g4
              simp only [werr_error] at g1

              have HTI := Lib.hid hti; clear hti
              have HST := Lib.hid hst; clear hst
              have HGE := Lib.hid (fun b (h1 : ρ b = 4 ∨ ρ b = 5) => show w4.heap.size ≤ b from by
                rcases Nat.lt_or_ge b w4.heap.size with h2 | h2
                · by_cases e : b = (w.heap.size + 1) ∨ b = (w.heap.size + 1 + 1)
                  · rcases e with e | e
                    · subst e; omega
                    · subst e; omega
                  · have := HB.out.role b h2 e; omega
                · exact h2)
              have I6 : Hid (GetI S w (w.heap.size + 1) (w.heap.size + 1 + 1) w.heap.size (.error e) [.int .u8 ((13 : Nat) : Int), .slice none 0 0, .string ⟨#[]⟩, .slice none 0 0, .int .u16 0, .slice none 0 0, .slice none 0 0, .bool false, .bool false, .int .i32 0, .bool false, .int .i64 0, .slice none 0 0, .bool false, .int .u16 0, .bool false, .int .i64 0, .slice none 0 0, .int .i64 0, .slice none 0 0, .int .u8 (k : Int), .slice A2 m2 d2] zeroQ (fun S w => RqR S w (mk13 k l Par.none) .z .z .z .z .z .z .z ⟨A2,m2,d2⟩) wr) := by
                have hw4 := I5.out.gr.size
                have hl5 := I5.out.box.lt
                refine ⟨HAr.out, HBx.out, goesBx.keep I5.out.res HB.out.size (fun b e hl => HB.out.fr.block b hl (by omega)), ⟨HB.out.fr.os.trans I5.out.gr.os, HB.out.fr.tape.trans I5.out.gr.tape, HB.out.fr.output.trans I5.out.gr.output, Nat.le_trans hw4 HB.out.size, fun b hb hn => (HB.out.fr.block b (by omega) (fun e => by rcases e with e | e; exact hn (by rw [e]); omega)).trans (I5.out.gr.block b hb hn)⟩, Arr.nil, Nat.zero_le _, Sl.nil, ⟨Arr.nil, Arr.nil, Sl.nil⟩, Arr.nil, Sl.nil, ?_⟩
                exact ((HK2.out.arr (by decide)).mono fun b hb _ => (by have := HGE.out b (.inl hb); omega)).imp fun x _ v hp => (goesStm x v).mono hp fun b hb _ => (by have := HGE.out b (.inr hb); omega)
              clear HAr HB HBx hρ9 hρ8 HGE HK2
              have q2 := I6.out.box.lt
              have q3 := I6.out.res.lt
              go_wp2_with fail
              refine (rrun_any (batch := true) I6.out.rd HS9.out).mono ?_
              rintro e7 w7 ⟨p, C1, n1, c1, C2, n2, c2, C3, n3, c3, rfl, hp4, ha4, hg4, ht4⟩
              have HG := Lib.hid (gp_batch HKK.out HS1.out HS2.out HM.out HS3.out HTI.out (HST.out ▸ ht4))
              have e2 : gR (getRun true) (.error e) = sF := by rw [HSF.out, HST.out]; exact HG.out.1.symm
              rw [e2] at ha4
              have I7 := Lib.hid ((I6.out.step goesRq (by omega) (by omega) ha4 hg4).to (F' := fun S w => RqR S w (mk13 k l p) .z .z ⟨C1,n1,c1⟩ ⟨C2,n2,c2⟩ ⟨C3,n3,c3⟩ .z .z ⟨A2,m2,d2⟩) ⟨Arr.nil, Nat.zero_le _, Sl.nil, goesPar.mono hp4 (fun b hb _ => I6.out.new hb), Arr.nil, Sl.nil, (goesRq.grown I6.out.par hg4 (fun b hb => hb.2.2.2)).all⟩)
              clear e2 ha4 hg4 hp4 ht4 q2 q3
              have q2 := I7.out.box.lt
              have q3 := I7.out.res.lt
              go_wp2_with (first | (refine wpList_storeB I7.out.box (by rfl) 30 _ _ (by rfl) 4 (parV p C1 n1 c1 C2 n2 c2 C3 n3 c3) (by rfl) (by rfl) (by kernel_rfl) (by show 4 + 13 ≤ 22; decide) (by rfl) ?_; intro w8 hb8 hg8))
              have I8 := Lib.hid (I7.out.puts goesRq hb8 hg8 (by omega) (by omega) (by omega))
              go_meet
              exact ⟨mk13 k l p, .z, .z, ⟨C1,n1,c1⟩, ⟨C2,n2,c2⟩, ⟨C3,n3,c3⟩, .z, .z, ⟨A2,m2,d2⟩, I8, HG.out.2⟩
            | ok rest =>
              obtain ⟨AX, nX, cX, g0, g1, g2, g3, g4⟩ := HAr.out
              simp only [werr_ok] at g1
              clear g0 g2 g3 g4
              have hpos : 0 < M - j := by omega
              have hposI : (0 : Int) < ((M - j : Nat) : Int) := by omega
              have p21 := HBx.out.c 21 _ rfl
              have z21 := HBx.out.fr 21
              go_upto_region 26 with fail
              refine regt_start (by kernel_rfl) ?_
              (refine regt_take 0 (v := ?_) (by rfl) (by kernel_rfl) (by kernel_rfl) (by kernel_rfl) (by exact fun _ _ _ h => h) (by rfl) ?_ ?_; rotate_left; focus (intro w hSw; go_simp; try with_reducible rfl))
              simp only [Act.put, List.setIfInBounds_toArray, List.set_cons_zero, List.set_cons_succ]
              (refine regt_take 2 (v := ?_) (by rfl) (by kernel_rfl) (by kernel_rfl) (by kernel_rfl) (by exact fun _ _ _ h => h) (by rfl) ?_ ?_; rotate_left; focus (intro w hSw; go_simp; try with_reducible rfl))
              simp only [Act.put, List.setIfInBounds_toArray, List.set_cons_zero, List.set_cons_succ]
              refine regt_two 1 3 (by kernel_rfl) (by rfl) (by rfl) (fun K hK => ?_) (fun K hK => ?_)
              focus
                go_simp
                refine hK.out _ _ (trivial) ?_
                clear hK K
                try simp only [Act.put, List.setIfInBounds_toArray, List.set_cons_zero, List.set_cons_succ]
                refine regt_call 3 (by kernel_rfl) (by rfl) (fun K hK => ?_)
                go_simp
                go_at_call 47; refine (rstm_any (HAr.out.after (by repeat (first | exact Below.refl _ _ | assumption | refine Below.drew ?_ | refine below_drewN ?_ _ | refine Below.alloc ?_ (by first | (simp; done) | omega | (simp; omega)) _ | refine Below.setCell ?_ (by first | (simp; done) | omega | (simp; omega)) _))) HS9.out).mono ?_; rintro ek wk ⟨x, B1, m1, d1, B2, m3, d3, rfl, hxl, hF, hAx, hgx, htx⟩; have hdr : Below wr.heap.size wr wr.drew := (Below.refl _ wr).drew; have hfk : Fr (Rl ρ 9) wr.drew wk := Fr.of_grown hgx (fun b e => by injection e with e; subst e; exact hρ9); obtain ⟨ρk, hxk⟩ : ∃ q, q = xt ρ wr.drew.heap.size 5 := ⟨_, rfl⟩; have HAk := Lib.hid hAx; have HTX := Lib.hid htx; have HKk := Lib.hid ((((HK2.out.after hdr).deepA goesStm hdr).stepx hfk hxk).deepx goesStm hfk hxk); have HBk := Lib.hid ((HB.out.after hdr).stepx hfk hxk); have HBxk := Lib.hid (goesBx.grown (HBx.out.after hdr) hgx (fun b e => by omega)); have HFk : Hid (stmP (Rl ρk 5) wk x [.bool x.prepared, .string (str x.text), .slice B1 m1 d1, .slice B2 m3 d3]) := Lib.hid ((goesStm x _).mono (S := fun b => wr.drew.heap.size ≤ b) ⟨B1, m1, d1, B2, m3, d3, rfl, hxl, hF.1, hF.2⟩ fun b hb _ => by show ρk b = 5; rw [hxk]; exact xt_ge hb); have hρk9 : ρk (w.heap.size + 1) = 9 := (by rw [hxk, xt_lt (by simp; omega)]; exact hρ9); have hρk8 : ρk (w.heap.size + 1 + 1) = 8 := (by rw [hxk, xt_lt (by simp; omega)]; exact hρ8); have hzk := HBk.out.size; have hyk : (w.heap.size + 1 + 1) < wk.heap.size := HBxk.out.lt; have p21k := HBxk.out.c 21 _ rfl; have z21k := HBxk.out.fr 21; have hmk : m2 ≤ 65536 := (by have := HKk.out.len (by decide); have := HL.out; omega); clear hAx htx hF hgx hfk hdr
                refine hK.out _ _ (trivial) ?_
                clear hK K
                try simp only [Act.put, List.setIfInBounds_toArray, List.set_cons_zero, List.set_cons_succ]
                refine regt_call 4 (by kernel_rfl) (by rfl) (fun K hK => ?_)
                go_simp
                refine hK.out _ _ (trivial) ?_
                clear hK K
                try simp only [Act.put, List.setIfInBounds_toArray, List.set_cons_zero, List.set_cons_succ]
                refine regt_call 5 (by kernel_rfl) (by rfl) (fun K hK => ?_)
                refine step_appX rfl tyStm _ _ rfl (ρ := ρk) (r := 4) _ _ _ l rfl (HKk.out.after (by repeat (first | exact Below.refl _ _ | assumption | refine Below.drew ?_ | refine below_drewN ?_ _ | refine Below.alloc ?_ (by first | (simp; done) | omega | (simp; omega)) _ | refine Below.setCell ?_ (by first | (simp; done) | omega | (simp; omega)) _))) _ _ _ _ [x] rfl (arr_lit (P := stmP (Rl ρk 5) wk) _ #[.bool x.prepared, .string (str x.text), .slice B1 m1 d1, .slice B2 m3 d3] x rfl HFk.out (by simp)) (fun _ _ h => stmP_one _ _ h) (fun _ _ _ h => h) (by omega) (by unfold maxLen; omega) ?_; intro A4 m4 d4 w5 ρ5 hx5 hown5 hf5; have hba : Below wk.heap.size wk (wk.alloc _) := (Below.refl _ _).alloc (Nat.le_refl _) (.cells #[.bool x.prepared, .string (str x.text), .slice B1 m1 d1, .slice B2 m3 d3] 58); have HK5 := Lib.hid ((hown5.deepA goesStm hba).deepx goesStm hf5 hx5); have HB5 := Lib.hid ((HBk.out.after hba).stepx hf5 hx5); have HA5 := Lib.hid ((HAk.out.after hba).fr hf5 (by show ¬ ρk (w.heap.size + 1) = 4; rw [hρk9]; decide) (fun b hb => HBk.out.zero (by decide) (by have := hb.2; omega) (fun e => by have := hb.2; omega))); have HBx5 := Lib.hid (goesBx.keep (HBxk.out.after hba) hf5.size (fun b e hl => hf5.block b hl (by subst e; show ¬ ρk (w.heap.size + 1 + 1) = 4; rw [hρk8]; decide))); have hρ59 : ρ5 (w.heap.size + 1) = 9 := (by rw [hx5, xt_lt (by simp; omega)]; exact hρk9); have hρ58 : ρ5 (w.heap.size + 1 + 1) = 8 := (by rw [hx5, xt_lt (by simp; omega)]; exact hρk8); have hz5 := HB5.out.size; have hy5 : (w.heap.size + 1 + 1) < w5.heap.size := HBx5.out.lt; have p215 := HBx5.out.c 21 _ rfl; have z215 := HBx5.out.fr 21; clear hba hown5 hf5 p21k z21k p21 z21
                refine hK.out _ _ (trivial) ?_
                clear hK K
                try simp only [Act.put, List.setIfInBounds_toArray, List.set_cons_zero, List.set_cons_succ]
                (refine regt_take 6 (v := ?_) (by rfl) (by kernel_rfl) (by kernel_rfl) (by kernel_rfl) (by exact fun _ _ _ h => h) (by rfl) ?_ ?_; rotate_left; focus (intro w hSw; go_simp; try with_reducible rfl))
                simp only [Act.put, List.setIfInBounds_toArray, List.set_cons_zero, List.set_cons_succ]
                refine regt_call 7 (by kernel_rfl) (by rfl) (fun K hK => ?_)
                go_simp
                refine hK.out _ _ (trivial) ?_
                clear hK K
                try simp only [Act.put, List.setIfInBounds_toArray, List.set_cons_zero, List.set_cons_succ]
                refine wpAnyH_done (by kernel_rfl) ?_ _
              rotate_left 1
              focus
                go_simp
                go_at_call 47; refine (rstm_any (HAr.out.after (by repeat (first | exact Below.refl _ _ | assumption | refine Below.drew ?_ | refine below_drewN ?_ _ | refine Below.alloc ?_ (by first | (simp; done) | omega | (simp; omega)) _ | refine Below.setCell ?_ (by first | (simp; done) | omega | (simp; omega)) _))) HS9.out).mono ?_; rintro ek wk ⟨x, B1, m1, d1, B2, m3, d3, rfl, hxl, hF, hAx, hgx, htx⟩; have hdr : Below wr.heap.size wr wr.drew := (Below.refl _ wr).drew; have hfk : Fr (Rl ρ 9) wr.drew wk := Fr.of_grown hgx (fun b e => by injection e with e; subst e; exact hρ9); obtain ⟨ρk, hxk⟩ : ∃ q, q = xt ρ wr.drew.heap.size 5 := ⟨_, rfl⟩; have HAk := Lib.hid hAx; have HTX := Lib.hid htx; have HKk := Lib.hid ((((HK2.out.after hdr).deepA goesStm hdr).stepx hfk hxk).deepx goesStm hfk hxk); have HBk := Lib.hid ((HB.out.after hdr).stepx hfk hxk); have HBxk := Lib.hid (goesBx.grown (HBx.out.after hdr) hgx (fun b e => by omega)); have HFk : Hid (stmP (Rl ρk 5) wk x [.bool x.prepared, .string (str x.text), .slice B1 m1 d1, .slice B2 m3 d3]) := Lib.hid ((goesStm x _).mono (S := fun b => wr.drew.heap.size ≤ b) ⟨B1, m1, d1, B2, m3, d3, rfl, hxl, hF.1, hF.2⟩ fun b hb _ => by show ρk b = 5; rw [hxk]; exact xt_ge hb); have hρk9 : ρk (w.heap.size + 1) = 9 := (by rw [hxk, xt_lt (by simp; omega)]; exact hρ9); have hρk8 : ρk (w.heap.size + 1 + 1) = 8 := (by rw [hxk, xt_lt (by simp; omega)]; exact hρ8); have hzk := HBk.out.size; have hyk : (w.heap.size + 1 + 1) < wk.heap.size := HBxk.out.lt; have p21k := HBxk.out.c 21 _ rfl; have z21k := HBxk.out.fr 21; have hmk : m2 ≤ 65536 := (by have := HKk.out.len (by decide); have := HL.out; omega); clear hAx htx hF hgx hfk hdr
                refine hK.out _ _ (trivial) ?_
                clear hK K
                try simp only [Act.put, List.setIfInBounds_toArray, List.set_cons_zero, List.set_cons_succ]
                refine regt_two 1 4 (by kernel_rfl) (by rfl) (by rfl) (fun K hK => ?_) (fun K hK => ?_)
                focus
                  go_simp
                  refine hK.out _ _ (trivial) ?_
                  clear hK K
                  try simp only [Act.put, List.setIfInBounds_toArray, List.set_cons_zero, List.set_cons_succ]
                  refine regt_call 4 (by kernel_rfl) (by rfl) (fun K hK => ?_)
                  go_simp
                  refine hK.out _ _ (trivial) ?_
                  clear hK K
                  try simp only [Act.put, List.setIfInBounds_toArray, List.set_cons_zero, List.set_cons_succ]
                  refine regt_call 5 (by kernel_rfl) (by rfl) (fun K hK => ?_)
                  refine step_appX rfl tyStm _ _ rfl (ρ := ρk) (r := 4) _ _ _ l rfl (HKk.out.after (by repeat (first | exact Below.refl _ _ | assumption | refine Below.drew ?_ | refine below_drewN ?_ _ | refine Below.alloc ?_ (by first | (simp; done) | omega | (simp; omega)) _ | refine Below.setCell ?_ (by first | (simp; done) | omega | (simp; omega)) _))) _ _ _ _ [x] rfl (arr_lit (P := stmP (Rl ρk 5) wk) _ #[.bool x.prepared, .string (str x.text), .slice B1 m1 d1, .slice B2 m3 d3] x rfl HFk.out (by simp)) (fun _ _ h => stmP_one _ _ h) (fun _ _ _ h => h) (by omega) (by unfold maxLen; omega) ?_; intro A4 m4 d4 w5 ρ5 hx5 hown5 hf5; have hba : Below wk.heap.size wk (wk.alloc _) := (Below.refl _ _).alloc (Nat.le_refl _) (.cells #[.bool x.prepared, .string (str x.text), .slice B1 m1 d1, .slice B2 m3 d3] 58); have HK5 := Lib.hid ((hown5.deepA goesStm hba).deepx goesStm hf5 hx5); have HB5 := Lib.hid ((HBk.out.after hba).stepx hf5 hx5); have HA5 := Lib.hid ((HAk.out.after hba).fr hf5 (by show ¬ ρk (w.heap.size + 1) = 4; rw [hρk9]; decide) (fun b hb => HBk.out.zero (by decide) (by have := hb.2; omega) (fun e => by have := hb.2; omega))); have HBx5 := Lib.hid (goesBx.keep (HBxk.out.after hba) hf5.size (fun b e hl => hf5.block b hl (by subst e; show ¬ ρk (w.heap.size + 1 + 1) = 4; rw [hρk8]; decide))); have hρ59 : ρ5 (w.heap.size + 1) = 9 := (by rw [hx5, xt_lt (by simp; omega)]; exact hρk9); have hρ58 : ρ5 (w.heap.size + 1 + 1) = 8 := (by rw [hx5, xt_lt (by simp; omega)]; exact hρk8); have hz5 := HB5.out.size; have hy5 : (w.heap.size + 1 + 1) < w5.heap.size := HBx5.out.lt; have p215 := HBx5.out.c 21 _ rfl; have z215 := HBx5.out.fr 21; clear hba hown5 hf5 p21k z21k p21 z21
                  refine hK.out _ _ (trivial) ?_
                  clear hK K
                  try simp only [Act.put, List.setIfInBounds_toArray, List.set_cons_zero, List.set_cons_succ]
                  (refine regt_take 6 (v := ?_) (by rfl) (by kernel_rfl) (by kernel_rfl) (by kernel_rfl) (by exact fun _ _ _ h => h) (by rfl) ?_ ?_; rotate_left; focus (intro w hSw; go_simp; try with_reducible rfl))
                  simp only [Act.put, List.setIfInBounds_toArray, List.set_cons_zero, List.set_cons_succ]
                  refine regt_call 7 (by kernel_rfl) (by rfl) (fun K hK => ?_)
                  go_simp
                  refine hK.out _ _ (trivial) ?_
                  clear hK K
                  try simp only [Act.put, List.setIfInBounds_toArray, List.set_cons_zero, List.set_cons_succ]
                  refine wpAnyH_done (by kernel_rfl) ?_ _
                rotate_left 1
                focus
                  go_simp
                  refine hK.out _ _ (trivial) ?_
                  clear hK K
                  try simp only [Act.put, List.setIfInBounds_toArray, List.set_cons_zero, List.set_cons_succ]
                  refine regt_call 1 (by kernel_rfl) (by rfl) (fun K hK => ?_)
                  go_simp
                  refine hK.out _ _ (trivial) ?_
                  clear hK K
                  try simp only [Act.put, List.setIfInBounds_toArray, List.set_cons_zero, List.set_cons_succ]
                  refine regt_call 5 (by kernel_rfl) (by rfl) (fun K hK => ?_)
                  refine step_appX rfl tyStm _ _ rfl (ρ := ρk) (r := 4) _ _ _ l rfl (HKk.out.after (by repeat (first | exact Below.refl _ _ | assumption | refine Below.drew ?_ | refine below_drewN ?_ _ | refine Below.alloc ?_ (by first | (simp; done) | omega | (simp; omega)) _ | refine Below.setCell ?_ (by first | (simp; done) | omega | (simp; omega)) _))) _ _ _ _ [x] rfl (arr_lit (P := stmP (Rl ρk 5) wk) _ #[.bool x.prepared, .string (str x.text), .slice B1 m1 d1, .slice B2 m3 d3] x rfl HFk.out (by simp)) (fun _ _ h => stmP_one _ _ h) (fun _ _ _ h => h) (by omega) (by unfold maxLen; omega) ?_; intro A4 m4 d4 w5 ρ5 hx5 hown5 hf5; have hba : Below wk.heap.size wk (wk.alloc _) := (Below.refl _ _).alloc (Nat.le_refl _) (.cells #[.bool x.prepared, .string (str x.text), .slice B1 m1 d1, .slice B2 m3 d3] 58); have HK5 := Lib.hid ((hown5.deepA goesStm hba).deepx goesStm hf5 hx5); have HB5 := Lib.hid ((HBk.out.after hba).stepx hf5 hx5); have HA5 := Lib.hid ((HAk.out.after hba).fr hf5 (by show ¬ ρk (w.heap.size + 1) = 4; rw [hρk9]; decide) (fun b hb => HBk.out.zero (by decide) (by have := hb.2; omega) (fun e => by have := hb.2; omega))); have HBx5 := Lib.hid (goesBx.keep (HBxk.out.after hba) hf5.size (fun b e hl => hf5.block b hl (by subst e; show ¬ ρk (w.heap.size + 1 + 1) = 4; rw [hρk8]; decide))); have hρ59 : ρ5 (w.heap.size + 1) = 9 := (by rw [hx5, xt_lt (by simp; omega)]; exact hρk9); have hρ58 : ρ5 (w.heap.size + 1 + 1) = 8 := (by rw [hx5, xt_lt (by simp; omega)]; exact hρk8); have hz5 := HB5.out.size; have hy5 : (w.heap.size + 1 + 1) < w5.heap.size := HBx5.out.lt; have p215 := HBx5.out.c 21 _ rfl; have z215 := HBx5.out.fr 21; clear hba hown5 hf5 p21k z21k p21 z21
                  refine hK.out _ _ (trivial) ?_
                  clear hK K
                  try simp only [Act.put, List.setIfInBounds_toArray, List.set_cons_zero, List.set_cons_succ]
                  (refine regt_take 6 (v := ?_) (by rfl) (by kernel_rfl) (by kernel_rfl) (by kernel_rfl) (by exact fun _ _ _ h => h) (by rfl) ?_ ?_; rotate_left; focus (intro w hSw; go_simp; try with_reducible rfl))
                  simp only [Act.put, List.setIfInBounds_toArray, List.set_cons_zero, List.set_cons_succ]
                  refine regt_call 7 (by kernel_rfl) (by rfl) (fun K hK => ?_)
                  go_simp
                  refine hK.out _ _ (trivial) ?_
                  clear hK K
                  try simp only [Act.put, List.setIfInBounds_toArray, List.set_cons_zero, List.set_cons_succ]
                  refine wpAnyH_done (by kernel_rfl) ?_ _
              all_goals
                have hset : Fr (Rl ρ5 8) w5 (w5.setCell ⟨(w.heap.size + 1 + 1), 21, none⟩ (.slice A4 m4 d4)) := Fr.set w5 (X := (w.heap.size + 1 + 1)) (show Rl ρ5 8 (w.heap.size + 1 + 1) from hρ58) _
                have HK6 := Lib.hid ((HK5.out.stay hset).deepS goesStm hset)
                have HA6 := Lib.hid (HA5.out.fr hset (by show ¬ ρ5 (w.heap.size + 1) = 8; rw [hρ59]; decide) (fun b hb => HB5.out.zero (by decide) (by have := hb.2; omega) (fun e => by have := hb.2; omega)))
                have HB6 := Lib.hid (HB5.out.stay hset)
                have HBx6 := Lib.hid (HBx5.out.put 21 (.slice A4 m4 d4) (by show 21 < 22; decide))
                have HP6 := Lib.hid (HP.out.step hlt2 x HTX.out)
                clear hset p215 z215
                go_wp2_with fail
                refine ⟨⟨ρ5, j + 1, l ++ [x], _, A4, m4, d4, by omega, by congr 1; omega, (by have := HL.out; show (l ++ [_]).length = j + 1; rw [List.length_append, this]; rfl), HK6, HA6, HB6, HBx6, hρ59, hρ58, HP6⟩, by simp [intOf]; omega⟩
          · obtain rfl : j = M := by omega
            obtain ⟨hst, hti⟩ := HP.out.fin (.inl rfl)
            have hz0 : j - j = 0 := Nat.sub_self j
            obtain ⟨AX, nX, cX, g0, g1, g2, g3, g4⟩ := HAr.out
            clear g0 g2 g3 g4

            have HTI := Lib.hid hti; clear hti
            have HST := Lib.hid hst; clear hst
            have HGE := Lib.hid (fun b (h1 : ρ b = 4 ∨ ρ b = 5) => show w4.heap.size ≤ b from by
              rcases Nat.lt_or_ge b w4.heap.size with h2 | h2
              · by_cases e : b = (w.heap.size + 1) ∨ b = (w.heap.size + 1 + 1)
                · rcases e with e | e
                  · subst e; omega
                  · subst e; omega
                · have := HB.out.role b h2 e; omega
              · exact h2)
            have I6 : Hid (GetI S w (w.heap.size + 1) (w.heap.size + 1 + 1) w.heap.size st [.int .u8 ((13 : Nat) : Int), .slice none 0 0, .string ⟨#[]⟩, .slice none 0 0, .int .u16 0, .slice none 0 0, .slice none 0 0, .bool false, .bool false, .int .i32 0, .bool false, .int .i64 0, .slice none 0 0, .bool false, .int .u16 0, .bool false, .int .i64 0, .slice none 0 0, .int .i64 0, .slice none 0 0, .int .u8 (k : Int), .slice A2 m2 d2] zeroQ (fun S w => RqR S w (mk13 k l Par.none) .z .z .z .z .z .z .z ⟨A2,m2,d2⟩) wr) := by
              have hw4 := I5.out.gr.size
              have hl5 := I5.out.box.lt
              refine ⟨HAr.out, HBx.out, goesBx.keep I5.out.res HB.out.size (fun b e hl => HB.out.fr.block b hl (by omega)), ⟨HB.out.fr.os.trans I5.out.gr.os, HB.out.fr.tape.trans I5.out.gr.tape, HB.out.fr.output.trans I5.out.gr.output, Nat.le_trans hw4 HB.out.size, fun b hb hn => (HB.out.fr.block b (by omega) (fun e => by rcases e with e | e; exact hn (by rw [e]); omega)).trans (I5.out.gr.block b hb hn)⟩, Arr.nil, Nat.zero_le _, Sl.nil, ⟨Arr.nil, Arr.nil, Sl.nil⟩, Arr.nil, Sl.nil, ?_⟩
              exact ((HK2.out.arr (by decide)).mono fun b hb _ => (by have := HGE.out b (.inl hb); omega)).imp fun x _ v hp => (goesStm x v).mono hp fun b hb _ => (by have := HGE.out b (.inr hb); omega)
            clear HAr HB HBx hρ9 hρ8 HGE HK2
            have q2 := I6.out.box.lt
            have q3 := I6.out.res.lt
            go_wp2_with fail
            refine (rrun_any (batch := true) I6.out.rd HS9.out).mono ?_
            rintro e7 w7 ⟨p, C1, n1, c1, C2, n2, c2, C3, n3, c3, rfl, hp4, ha4, hg4, ht4⟩
            have HG := Lib.hid (gp_batch HKK.out HS1.out HS2.out HM.out HS3.out HTI.out (HST.out ▸ ht4))
            have e2 : gR (getRun true) st = sF := by rw [HSF.out, HST.out]; exact HG.out.1.symm
            rw [e2] at ha4
            have I7 := Lib.hid ((I6.out.step goesRq (by omega) (by omega) ha4 hg4).to (F' := fun S w => RqR S w (mk13 k l p) .z .z ⟨C1,n1,c1⟩ ⟨C2,n2,c2⟩ ⟨C3,n3,c3⟩ .z .z ⟨A2,m2,d2⟩) ⟨Arr.nil, Nat.zero_le _, Sl.nil, goesPar.mono hp4 (fun b hb _ => I6.out.new hb), Arr.nil, Sl.nil, (goesRq.grown I6.out.par hg4 (fun b hb => hb.2.2.2)).all⟩)
            clear e2 ha4 hg4 hp4 ht4 q2 q3
            have q2 := I7.out.box.lt
            have q3 := I7.out.res.lt
            go_wp2_with (first | (refine wpList_storeB I7.out.box (by rfl) 30 _ _ (by rfl) 4 (parV p C1 n1 c1 C2 n2 c2 C3 n3 c3) (by rfl) (by rfl) (by kernel_rfl) (by show 4 + 13 ≤ 22; decide) (by rfl) ?_; intro w8 hb8 hg8))
            have I8 := Lib.hid (I7.out.puts goesRq hb8 hg8 (by omega) (by omega) (by omega))
            go_meet
            exact ⟨mk13 k l p, .z, .z, ⟨C1,n1,c1⟩, ⟨C2,n2,c2⟩, ⟨C3,n3,c3⟩, .z, .z, ⟨A2,m2,d2⟩, I8, HG.out.2⟩
    case rest =>
      obtain ⟨q, o, i, r1, r2, r3, ev, t, al, I2, HT⟩ := hcut
      obtain ⟨w2, hwo⟩ : ∃ wo, wo = wc := ⟨_, rfl⟩
      subst hwo
      obtain ⟨AX, nX, cX, g0, g1, g2, g3, g4⟩ := I2.out.rd
      cases sF with
      | error e =>
        have hne : e ≠ 0 := g4 e rfl
        simp only [werr_error] at g1
        clear g2 g3 g4
        go_wp2_with fail
        refine (rmust_any (er := 23) I2.out.rd HS9.out (by decide)).mono ?_
        rintro e3 w3 ⟨rfl, ha3, hg3⟩
        have I4 := Lib.hid (I2.out.step goesRq (by omega) (by omega) (s' := .error e) ha3 hg3)
        have HN := Lib.hid (gq_err HSF.out)
        clear ha3 hg3 g0 g1
        have hne2 : ((e : Int) != 0) = true := bne_iff_ne.2 hne
        have x1 : w3.cell? ⟨w.heap.size + 1, 1, none⟩ = some (.int .i64 e) := by obtain ⟨_, _, _, _, y1, _⟩ := I4.out.rd; exact y1
        have q2 := I4.out.box.lt
        have q3 := I4.out.res.lt
        have q4 := I4.out.rd.lt
        go_upto_region 30 with fail
        refine regt_start (by kernel_rfl) ?_
        (refine regt_take 0 (v := ?_) (by rfl) (by kernel_rfl) (by kernel_rfl) (by kernel_rfl) (by exact fun _ _ _ h => h) (by rfl) ?_ ?_; rotate_left; focus (intro w hSw; go_simp; try with_reducible rfl))
        simp only [Act.put, List.setIfInBounds_toArray, List.set_cons_zero, List.set_cons_succ]
        (refine regt_take 1 (v := ?_) (by rfl) (by kernel_rfl) (by kernel_rfl) (by kernel_rfl) (by exact fun _ _ _ h => h) (by rfl) ?_ ?_; rotate_left; focus (intro w hSw; go_simp; try with_reducible rfl))
        simp only [Act.put, List.setIfInBounds_toArray, List.set_cons_zero, List.set_cons_succ]
        (refine regt_take 2 (v := ?_) (by rfl) (by kernel_rfl) (by kernel_rfl) (by kernel_rfl) (by exact fun _ _ _ h => h) (by rfl) ?_ ?_; rotate_left; focus (intro w hSw; go_simp; try with_reducible rfl))
        simp only [Act.put, List.setIfInBounds_toArray, List.set_cons_zero, List.set_cons_succ]
        (refine regt_take 3 (v := ?_) (by rfl) (by kernel_rfl) (by kernel_rfl) (by kernel_rfl) (by exact fun _ _ _ h => h) (by rfl) ?_ ?_; rotate_left; focus (intro w hSw; go_simp; try with_reducible rfl))
        simp only [Act.put, List.setIfInBounds_toArray, List.set_cons_zero, List.set_cons_succ]
        refine regt_two 4 5 (by kernel_rfl) (by rfl) (by rfl) (fun K hK => ?_) (fun K hK => ?_)
        focus
          go_simp
          refine hK.out _ _ (trivial) ?_
          clear hK K
          try simp only [Act.put, List.setIfInBounds_toArray, List.set_cons_zero, List.set_cons_succ]
          refine regt_call 5 (by kernel_rfl) (by rfl) (fun K hK => ?_)
          refine step_storeB (I4.out.after goesRq (Below.refl _ _).drew).res (by rfl) 33 _ _ (by rfl) 0 zeroQ (by rfl) (by rfl) (by kernel_rfl) (by show 0 + 22 ≤ 22; decide) (by rfl) ?_; intro w9 hb9 hg9; have x9 := gcX hg9 (by omega) (kcell (Below.refl _ w3).drew x1); have HB9 := Lib.hid hb9; have HG9 := Lib.hid hg9; clear hb9 hg9
          refine hK.out _ _ (trivial) ?_
          clear hK K
          try simp only [Act.put, List.setIfInBounds_toArray, List.set_cons_zero, List.set_cons_succ]
          (refine regt_take 6 (v := ?_) (by rfl) (by kernel_rfl) (by kernel_rfl) (by kernel_rfl) (by exact fun _ _ _ h => h) (by rfl) ?_ ?_; rotate_left; focus (intro w hSw; go_simp; try with_reducible rfl))
          simp only [Act.put, List.setIfInBounds_toArray, List.set_cons_zero, List.set_cons_succ]
          refine wpAnyH_done (by kernel_rfl) ?_ _
        rotate_left 1
        focus
          refine step_storeB (I4.out.after goesRq (Below.refl _ _).drew).res (by rfl) 33 _ _ (by rfl) 0 zeroQ (by rfl) (by rfl) (by kernel_rfl) (by show 0 + 22 ≤ 22; decide) (by rfl) ?_; intro w9 hb9 hg9; have x9 := gcX hg9 (by omega) (kcell (Below.refl _ w3).drew x1); have HB9 := Lib.hid hb9; have HG9 := Lib.hid hg9; clear hb9 hg9
          refine hK.out _ _ (trivial) ?_
          clear hK K
          try simp only [Act.put, List.setIfInBounds_toArray, List.set_cons_zero, List.set_cons_succ]
          refine regt_call 4 (by kernel_rfl) (by rfl) (fun K hK => ?_)
          go_simp
          refine hK.out _ _ (trivial) ?_
          clear hK K
          try simp only [Act.put, List.setIfInBounds_toArray, List.set_cons_zero, List.set_cons_succ]
          (refine regt_take 6 (v := ?_) (by rfl) (by kernel_rfl) (by kernel_rfl) (by kernel_rfl) (by exact fun _ _ _ h => h) (by rfl) ?_ ?_; rotate_left; focus (intro w hSw; go_simp; try with_reducible rfl))
          simp only [Act.put, List.setIfInBounds_toArray, List.set_cons_zero, List.set_cons_succ]
          refine wpAnyH_done (by kernel_rfl) ?_ _
        all_goals
          go_wp2_with fail
          refine bodyPost_ret (results_box (vs := zeroQ) rfl HB9.out (by rfl) (by rfl) _ Try.underlying33 rfl (by kernel_rfl)) rfl ?_
          obtain rfl := HN.out.symm.trans HR.out
          exact ⟨.z, .z, .z, .z, .z, .z, .z, .z, rfl, rqR_none 0, below_of_grown ((I4.out.after goesRq (Below.refl _ w3).drew).fin goesRq HG9.out (by omega) (Nat.le_refl _)).2.2 (by omega)⟩
      | ok cur =>
        have hlen : nX = cur.length := (g3 cur rfl).1.len
        simp only [werr_ok] at g1
        clear g2 g3 g4
        by_cases hc : cur.length = 0
        · obtain rfl : nX = 0 := by omega
          have HC := Lib.hid hc; clear hc hlen
          go_wp2_with fail
          refine (rmust_any (er := 23) I2.out.rd HS9.out (by decide)).mono ?_
          rintro e3 w3 ⟨rfl, ha3, hg3⟩
          have I4 := Lib.hid (I2.out.step goesRq (by omega) (by omega) (s' := .ok cur) ha3 hg3)
          have HN := Lib.hid (gq_ok HSF.out HC.out HT.out)
          clear ha3 hg3 g0 g1
          have x1 : w3.cell? ⟨w.heap.size + 1, 1, none⟩ = some (.int .i64 0) := by obtain ⟨_, _, _, _, y1, _⟩ := I4.out.rd; exact y1
          have q2 := I4.out.box.lt
          have q3 := I4.out.res.lt
          have q4 := I4.out.rd.lt
          go_wp2_with (first | (refine wpList_loadB I4.out.box (by rfl) 33 _ (by rfl) (by rfl) _ Try.underlying33 rfl (by kernel_rfl) ?_) | (refine wpList_storeB I4.out.res (by rfl) 33 _ _ (by rfl) 0 (rqV q o i r1 r2 r3 ev t al) (by rfl) (by rfl) (by kernel_rfl) (by show 0 + 22 ≤ 22; decide) (by rfl) ?_; intro w9 hb9 hg9; have HB9 := Lib.hid hb9; have HG9 := Lib.hid hg9; clear hb9 hg9))
          refine bodyPost_ret (results_box (vs := rqV q o i r1 r2 r3 ev t al) rfl HB9.out (by rfl) (by rfl) _ Try.underlying33 rfl (by kernel_rfl)) rfl ?_
          obtain rfl := HN.out.symm.trans HR.out
          exact ⟨o, i, r1, r2, r3, ev, t, al, rfl, (I4.out.fin goesRq HG9.out (by omega) (Nat.le_refl _)).1, below_of_grown ((I4.out).fin goesRq HG9.out (by omega) (Nat.le_refl _)).2.2 (by omega)⟩
        · have hn2 : ((nX : Int) == 0) = false := by simp; omega
          have HC := Lib.hid hc; clear hc hlen
          have hne : (23 : Int) ≠ 0 := by decide
          go_wp2_with fail
          refine (rmust_any (er := 23) I2.out.rd HS9.out (by decide)).mono ?_
          rintro e3 w3 ⟨rfl, ha3, hg3⟩
          have I4 := Lib.hid (I2.out.step goesRq (by omega) (by omega) (s' := .error 23) ha3 hg3)
          have HN := Lib.hid (gq_rest HSF.out HC.out)
          clear ha3 hg3 g0 g1
          have hne2 : ((23 : Int) != 0) = true := bne_iff_ne.2 hne
          have x1 : w3.cell? ⟨w.heap.size + 1, 1, none⟩ = some (.int .i64 23) := by obtain ⟨_, _, _, _, y1, _⟩ := I4.out.rd; exact y1
          have q2 := I4.out.box.lt
          have q3 := I4.out.res.lt
          have q4 := I4.out.rd.lt
          go_upto_region 30 with fail
          refine regt_start (by kernel_rfl) ?_
          (refine regt_take 0 (v := ?_) (by rfl) (by kernel_rfl) (by kernel_rfl) (by kernel_rfl) (by exact fun _ _ _ h => h) (by rfl) ?_ ?_; rotate_left; focus (intro w hSw; go_simp; try with_reducible rfl))
          simp only [Act.put, List.setIfInBounds_toArray, List.set_cons_zero, List.set_cons_succ]
          (refine regt_take 1 (v := ?_) (by rfl) (by kernel_rfl) (by kernel_rfl) (by kernel_rfl) (by exact fun _ _ _ h => h) (by rfl) ?_ ?_; rotate_left; focus (intro w hSw; go_simp; try with_reducible rfl))
          simp only [Act.put, List.setIfInBounds_toArray, List.set_cons_zero, List.set_cons_succ]
          (refine regt_take 2 (v := ?_) (by rfl) (by kernel_rfl) (by kernel_rfl) (by kernel_rfl) (by exact fun _ _ _ h => h) (by rfl) ?_ ?_; rotate_left; focus (intro w hSw; go_simp; try with_reducible rfl))
          simp only [Act.put, List.setIfInBounds_toArray, List.set_cons_zero, List.set_cons_succ]
          (refine regt_take 3 (v := ?_) (by rfl) (by kernel_rfl) (by kernel_rfl) (by kernel_rfl) (by exact fun _ _ _ h => h) (by rfl) ?_ ?_; rotate_left; focus (intro w hSw; go_simp; try with_reducible rfl))
          simp only [Act.put, List.setIfInBounds_toArray, List.set_cons_zero, List.set_cons_succ]
          refine regt_two 4 5 (by kernel_rfl) (by rfl) (by rfl) (fun K hK => ?_) (fun K hK => ?_)
          focus
            go_simp
            refine hK.out _ _ (trivial) ?_
            clear hK K
            try simp only [Act.put, List.setIfInBounds_toArray, List.set_cons_zero, List.set_cons_succ]
            refine regt_call 5 (by kernel_rfl) (by rfl) (fun K hK => ?_)
            refine step_storeB (I4.out.after goesRq (Below.refl _ _).drew).res (by rfl) 33 _ _ (by rfl) 0 zeroQ (by rfl) (by rfl) (by kernel_rfl) (by show 0 + 22 ≤ 22; decide) (by rfl) ?_; intro w9 hb9 hg9; have x9 := gcX hg9 (by omega) (kcell (Below.refl _ w3).drew x1); have HB9 := Lib.hid hb9; have HG9 := Lib.hid hg9; clear hb9 hg9
            refine hK.out _ _ (trivial) ?_
            clear hK K
            try simp only [Act.put, List.setIfInBounds_toArray, List.set_cons_zero, List.set_cons_succ]
            (refine regt_take 6 (v := ?_) (by rfl) (by kernel_rfl) (by kernel_rfl) (by kernel_rfl) (by exact fun _ _ _ h => h) (by rfl) ?_ ?_; rotate_left; focus (intro w hSw; go_simp; try with_reducible rfl))
            simp only [Act.put, List.setIfInBounds_toArray, List.set_cons_zero, List.set_cons_succ]
            refine wpAnyH_done (by kernel_rfl) ?_ _
          rotate_left 1
          focus
            refine step_storeB (I4.out.after goesRq (Below.refl _ _).drew).res (by rfl) 33 _ _ (by rfl) 0 zeroQ (by rfl) (by rfl) (by kernel_rfl) (by show 0 + 22 ≤ 22; decide) (by rfl) ?_; intro w9 hb9 hg9; have x9 := gcX hg9 (by omega) (kcell (Below.refl _ w3).drew x1); have HB9 := Lib.hid hb9; have HG9 := Lib.hid hg9; clear hb9 hg9
            refine hK.out _ _ (trivial) ?_
            clear hK K
            try simp only [Act.put, List.setIfInBounds_toArray, List.set_cons_zero, List.set_cons_succ]
            refine regt_call 4 (by kernel_rfl) (by rfl) (fun K hK => ?_)
            go_simp
            refine hK.out _ _ (trivial) ?_
            clear hK K
            try simp only [Act.put, List.setIfInBounds_toArray, List.set_cons_zero, List.set_cons_succ]
            (refine regt_take 6 (v := ?_) (by rfl) (by kernel_rfl) (by kernel_rfl) (by kernel_rfl) (by exact fun _ _ _ h => h) (by rfl) ?_ ?_; rotate_left; focus (intro w hSw; go_simp; try with_reducible rfl))
            simp only [Act.put, List.setIfInBounds_toArray, List.set_cons_zero, List.set_cons_succ]
            refine wpAnyH_done (by kernel_rfl) ?_ _
          all_goals
            go_wp2_with fail
            refine bodyPost_ret (results_box (vs := zeroQ) rfl HB9.out (by rfl) (by rfl) _ Try.underlying33 rfl (by kernel_rfl)) rfl ?_
            obtain rfl := HN.out.symm.trans HR.out
            exact ⟨.z, .z, .z, .z, .z, .z, .z, .z, rfl, rqR_none 0, below_of_grown ((I4.out.after goesRq (Below.refl _ w3).drew).fin goesRq HG9.out (by omega) (Nat.le_refl _)).2.2 (by omega)⟩
  · have HN := Lib.hid (gq_not (bs := bs) hk)
    have hk1 : ((op : Int) == 1) = false := by simp; omega
    have hk5 : ((op : Int) == 5) = false := by simp; omega
    have hk7 : ((op : Int) == 7) = false := by simp; omega
    have hk9 : ((op : Int) == 9) = false := by simp; omega
    have hk10 : ((op : Int) == 10) = false := by simp; omega
    have hk11 : ((op : Int) == 11) = false := by simp; omega
    have hk15 : ((op : Int) == 15) = false := by simp; omega
    have hk13 : ((op : Int) == 13) = false := by simp; omega
    have HK := Lib.hid hk; clear hk
    go_wp2_with (first | (refine wpList_built (by rfl) 33 _ (by rfl) #[.int .u8 0, .slice none 0 0, .string ⟨#[]⟩, .slice none 0 0, .int .u16 0, .slice none 0 0, .slice none 0 0, .bool false, .bool false, .int .i32 0, .bool false, .int .i64 0, .slice none 0 0, .bool false, .int .u16 0, .bool false, .int .i64 0, .slice none 0 0, .int .i64 0, .slice none 0 0, .int .u8 0, .slice none 0 0] (by kernel_rfl) ?_) | (refine wpList_storeB I1.out.res (by rfl) 33 _ _ (by rfl) 0 (zeroQ) (by rfl) (by rfl) (by kernel_rfl) (by show 0 + 22 ≤ 22; decide) (by rfl) ?_; intro w9 hb9 hg9; have HB9 := Lib.hid hb9; have HG9 := Lib.hid hg9; clear hb9 hg9))
    refine bodyPost_ret (results_box (vs := zeroQ) rfl HB9.out (by rfl) (by rfl) _ Try.underlying33 rfl (by kernel_rfl)) rfl ?_
    obtain rfl := HN.out.symm.trans HR.out
    exact ⟨.z, .z, .z, .z, .z, .z, .z, .z, rfl, rqR_none 0, below_of_grown ((I1.out).fin goesRq HG9.out (by omega) (Nat.le_refl _)).2.2 (by omega)⟩
end Go.Proofs.Sb
