/- Plain mathematics of bodies of requests (layer 8): read; no program in sight. No conditions. -/
import Derived.Test.YtfeeeighafflnaaGreatPlain
set_option linter.unusedVariables false
set_option linter.unusedSimpArgs false
namespace Sb

/-- a reading in a state: the value, and the state behind -/
def gV {α : Type} (d : α) (g : B → Res α) : Wr → α | .ok cur => rval d (g cur) | .error _ => d
def gR {α : Type} (g : B → Res α) : Wr → Wr | .ok cur => (match g cur with | .ok x => .ok x.2 | .error e => .error e) | .error e => .error e
theorem gV_ok {α : Type} {d : α} {g : B → Res α} {cur : B} {r : Res α} (h : g cur = r) : gV d g (.ok cur) = rval d r := by subst h; rfl
theorem gR_ok {α : Type} {g : B → Res α} {cur : B} {x : α × B} (h : g cur = .ok x) : gR g (.ok cur) = .ok x.2 := by simp only [gR, h]
theorem gR_err {α : Type} {g : B → Res α} {cur : B} {e : Int} (h : g cur = .error e) : gR g (.ok cur) = .error e := by simp only [gR, h]
theorem gR_of {α : Type} (g : B → Res α) (e : Int) : gR g (.error e) = .error e := rfl
theorem gV_of {α : Type} (d : α) (g : B → Res α) (e : Int) : gV d g (.error e) = d := rfl
/-- what fails unless something is so -/
def mustR (is : Bool) (e : Int) : Wr → Wr | .ok cur => if is then .ok cur else .error e | .error e' => .error e'
/-- what a statement is run with -/
structure Par where
  cons : Nat
  values : List Val
  names : List B
  skip : Bool
  paged : Bool
  page : Int
  resumed : Bool
  state : Val
  serially : Bool
  serial : Nat
  timed : Bool
  time : Int
def Par.none : Par := ⟨0, [], [], false, false, 0, false, Val.none, false, 0, false, 0⟩
/-- a statement of a batch -/
structure Stm where
  prepared : Bool
  text : B
  ident : B
  values : List Val
def Stm.none : Stm := ⟨false, [], [], []⟩
/-- a request -/
structure Rq where
  opcode : Nat
  options : List (B × B)
  text : B
  ident : B
  run : Par
  events : List B
  token : Val
  kind : Nat
  all : List Stm
def Rq.none : Rq := ⟨0, [], [], [], Par.none, [], Val.none, 0, []⟩
def Rq.of (op : Nat) : Rq := { Rq.none with opcode := op }

/-- one reading behind another -/
def bindR {α β : Type} (r : Res α) (f : α → B → Res β) : Res β := match r with | .error e => .error e | .ok (x, b) => f x b
def nmR (named : Bool) (b : B) : Res B := if named then getText b else .ok ([], b)
/-- a value of a run, with its name -/
def entR (named : Bool) : B → Res (B × Val) := bothR (nmR named) getValue
def getVals (named : Bool) (b : B) : Res (List (B × Val)) := bindR (getN 2 b) fun n r => getsM (entR named) n r
def nmsV (named : Bool) (l : List (B × Val)) : List B := if named then l.map (·.1) else []
def bitB (f k : Nat) : Bool := f / 2 ^ k % 2 == 1
/-- flags that may be -/
def flagsOk (batch : Bool) (f : Nat) : Bool := decide (f < 128) && (!bitB f 6 || bitB f 0) && (!batch || decide (f % 16 = 0 ∧ f < 64))
def getI8 (b : B) : Res Int := bindR (getN 8 b) fun x r => .ok (sgn 8 x, r)
def optR {α : Type} (c : Bool) (d : α) (g : B → Res α) (b : B) : Res α := if c then g b else .ok (d, b)
def valsR (f : Nat) (b : B) : Res (List (B × Val)) := optR (bitB f 0) [] (fun b => bindR (getVals (bitB f 6) b) fun l r => if l.length = 0 then .error 11 else .ok (l, r)) b
def parOf (c f : Nat) (l : List (B × Val)) (pg : Int) (st : Val) (sr : Nat) (tm : Int) : Par :=
  ⟨c, l.map (·.2), nmsV (bitB f 6) l, bitB f 1, bitB f 2, pg, bitB f 3, st, bitB f 4, sr, bitB f 5, tm⟩
/-- a run -/
def getRun (batch : Bool) (b : B) : Res Par :=
  bindR (getCons b) fun c b => bindR (getN 1 b) fun f b => if flagsOk batch f = false then .error 21 else
  bindR (valsR f b) fun l b => bindR (optR (bitB f 2) 0 getNum b) fun pg b => bindR (optR (bitB f 3) Val.none getValue b) fun st b =>
  bindR (optR (bitB f 4) 0 getCons b) fun sr b => bindR (optR (bitB f 5) 0 getI8 b) fun tm b => .ok (parOf c f l pg st sr tm, b)
/-- a statement of a batch -/
def getStm (b : B) : Res Stm := bindR (getN 1 b) fun k b => if 1 < k then .error 11 else
  bindR (if k = 1 then bindR (getText b) fun s r => .ok ((⟨true, [], s, []⟩ : Stm), r) else bindR (getLong b) fun s r => .ok ((⟨false, s, [], []⟩ : Stm), r)) fun s b =>
  bindR (getVals false b) fun l b => .ok ({ s with values := l.map (·.2) }, b)
def getAll (b : B) : Res (List Stm) := bindR (getN 2 b) fun n r => getsM getStm n r
/-- a body's parts -/
def getParts (op : Nat) (b : B) : Res Rq :=
  if op = 1 then bindR (getL pairR b) fun l r => .ok ({ Rq.of op with options := l }, r)
  else if op = 5 then .ok (Rq.of op, b)
  else if op = 7 then bindR (getLong b) fun s r => bindR (getRun false r) fun p r => .ok ({ Rq.of op with text := s, run := p }, r)
  else if op = 9 then bindR (getLong b) fun s r => .ok ({ Rq.of op with text := s }, r)
  else if op = 10 then bindR (getText b) fun s r => bindR (getRun false r) fun p r => .ok ({ Rq.of op with ident := s, run := p }, r)
  else if op = 11 then bindR (getTexts b) fun l r => .ok ({ Rq.of op with events := l }, r)
  else if op = 15 then bindR (getValue b) fun v r => .ok ({ Rq.of op with token := v }, r)
  else if op = 13 then bindR (getN 1 b) fun k r => if 2 < k then .error 11 else bindR (getAll r) fun l r => bindR (getRun true r) fun p r => .ok ({ Rq.of op with kind := k, all := l, run := p }, r)
  else .error 22
/-- a request of a body -/
def getRq (op : Nat) (b : B) : Except Int Rq := match getParts op b with
  | .error e => .error e
  | .ok (x, r) => if r.length = 0 then .ok x else .error 23
end Sb
namespace Sb
/-- a value that is what is got, where something is got -/
def Tie {α : Type} (g : B → Res α) (s : Wr) (x : α) : Prop := ∀ cur y rest, s = .ok cur → g cur = .ok (y, rest) → x = y
theorem Tie.err {α : Type} {g : B → Res α} {e : Int} {x : α} : Tie g (.error e) x := fun cur y rest h => by cases h
theorem Tie.gV {α : Type} {g : B → Res α} {s : Wr} {d : α} : Tie g s (gV d g s) := fun cur y rest h1 h2 => by subst h1; rw [gV_ok h2]; rfl
/-- how far a row of readings is -/
def PrgG {α : Type} (g : B → Res α) (m : Nat) (s3 : Wr) (k : Nat) (l : List α) (st : Wr) : Prop :=
  (∀ rest, st = .ok rest → ∃ c0, s3 = .ok c0 ∧ getsM g k c0 = .ok (l, rest)) ∧
  (∀ e, st = .error e → (∀ c0, s3 = .ok c0 → getsM g m c0 = .error e) ∧ (∀ e', s3 = .error e' → e = e'))
theorem PrgG.zero {α : Type} (g : B → Res α) (m : Nat) (s3 : Wr) : PrgG g m s3 0 [] s3 := ⟨fun rest h => ⟨rest, h, rfl⟩, fun e h => ⟨fun c0 h2 => (by rw [h] at h2; cases h2), fun e' h2 => (by rw [h] at h2; injection h2)⟩⟩
theorem PrgG.step {α : Type} {g : B → Res α} {m k : Nat} {s3 : Wr} {l : List α} {rest : B} (h : PrgG g m s3 k l (.ok rest)) (hk : k < m) (x : α) (hx : Tie g (.ok rest) x) : PrgG g m s3 (k + 1) (l ++ [x]) (gR g (.ok rest)) := by
  obtain ⟨c0, hc, hg⟩ := h.1 rest rfl
  cases hq : g rest with
  | ok p =>
    obtain ⟨y, r2⟩ := p
    obtain rfl := hx rest y r2 rfl hq
    rw [gR_ok hq]
    exact ⟨fun r h => by injection h with h; subst h; exact ⟨c0, hc, getsM_snoc hg hq⟩, fun e h => by cases h⟩
  | error e =>
    rw [gR_err hq]
    refine ⟨fun r h => (by cases h), fun e' h => ?_⟩
    injection h with h
    subst h
    refine ⟨fun c1 h1 => ?_, fun e' h1 => ?_⟩
    · rw [hc] at h1
      injection h1 with h1
      subst h1
      exact getsM_stop hk hg hq
    · rw [hc] at h1; cases h1
theorem PrgG.fin {α : Type} {g : B → Res α} {m k : Nat} {s3 : Wr} {l : List α} {st : Wr} (h : PrgG g m s3 k l st) (hx : k = m ∨ ∃ e, st = .error e) : st = gR (getsM g m) s3 ∧ Tie (getsM g m) s3 l := by
  cases st with
  | ok rest =>
    obtain ⟨c0, hc, hg⟩ := h.1 rest rfl
    rcases hx with rfl | ⟨e, he⟩
    · subst hc
      rw [gR_ok hg]
      exact ⟨rfl, fun cur y r h1 h2 => by injection h1 with h1; subst h1; rw [hg] at h2; injection h2 with h2; injection h2 with h2⟩
    · cases he
  | error e =>
    obtain ⟨h1, h2⟩ := h.2 e rfl
    cases s3 with
    | error e' => exact ⟨by rw [h2 e' rfl]; rfl, Tie.err⟩
    | ok c0 => exact ⟨by rw [gR_err (h1 c0 rfl)], fun cur y r h3 h4 => by injection h3 with h3; subst h3; rw [h1 _ rfl] at h4; cases h4⟩
theorem bindR_ok {α β : Type} {r : Res α} {f : α → B → Res β} {x : α} {b : B} (h : r = .ok (x, b)) : bindR r f = f x b := by subst h; rfl
theorem bindR_err {α β : Type} {r : Res α} {f : α → B → Res β} {e : Int} (h : r = .error e) : bindR r f = .error e := by subst h; rfl
/-- one reading behind another, in a state -/
theorem gR_bind {α β : Type} (d : α) (g : B → Res α) (f : α → B → Res β) (s : Wr) : gR (fun b => bindR (g b) f) s = gR (f (gV d g s)) (gR g s) := by
  cases s with
  | error e => rfl
  | ok cur =>
    cases h : g cur with
    | error e => rw [gR_err h, gR_err (bindR_err h)]; rfl
    | ok p =>
      obtain ⟨x, r⟩ := p
      rw [gR_ok h, gV_ok h]
      have e := bindR_ok (f := f) h
      simp only [gR, e, rval_ok]
theorem tie_bind {α β : Type} {d : α} {g : B → Res α} {f : α → B → Res β} {s : Wr} {x : β} (h : Tie (f (gV d g s)) (gR g s) x) : Tie (fun b => bindR (g b) f) s x := by
  intro cur y rest h1 h2
  subst h1
  cases hq : g cur with
  | error e => simp only [bindR_err hq] at h2; cases h2
  | ok p =>
    obtain ⟨a, r⟩ := p
    simp only [bindR_ok hq] at h2
    rw [gV_ok hq, gR_ok hq] at h
    exact h r y rest rfl h2
theorem gV_lt {n : Nat} (s : Wr) : gV 0 (getN n) s < 256 ^ n := by
  have hp : 0 < 256 ^ n := Nat.pow_pos (by decide)
  cases s with
  | error e => exact hp
  | ok cur =>
    cases h : getN n cur with
    | error e => rw [gV_ok h]; exact hp
    | ok p => rw [gV_ok h]; exact (getN_ok (x := p.1) (r := p.2) h).2.2.2
theorem gV_text (g : B → Res B) (hg : ∀ b x r, g b = .ok (x, r) → x.length + r.length ≤ b.length) (s : Wr) (hs : ∀ cur, s = .ok cur → cur.length ≤ 140737488355328) : (gV [] g s).length ≤ 140737488355328 := by
  cases s with
  | error e => exact Nat.zero_le _
  | ok cur =>
    cases h : g cur with
    | error e => rw [gV_ok h]; exact Nat.zero_le _
    | ok p => rw [gV_ok h]; have := hg cur p.1 p.2 h; have := hs cur rfl; simp only [rval_ok]; omega
theorem ent_R (named : Bool) (s : Wr) : gR (entR named) s = gR getValue (if named then gR getText s else s) ∧ Tie (entR named) s ((if named then gV [] getText s else []), gV Val.none getValue (if named then gR getText s else s)) := by
  cases s with
  | error e => cases named <;> exact ⟨rfl, Tie.err⟩
  | ok cur =>
    cases named with
    | false =>
      simp only [Bool.false_eq_true, if_false]
      cases h : getValue cur with
      | error e =>
        have e1 : entR false cur = .error e := by simp only [entR, bothR, nmR, Bool.false_eq_true, if_false, h]
        exact ⟨by rw [gR_err e1, gR_err h], fun c y r h1 h2 => by injection h1 with h1; subst h1; rw [e1] at h2; cases h2⟩
      | ok p =>
        have e1 : entR false cur = .ok (([], p.1), p.2) := by simp only [entR, bothR, nmR, Bool.false_eq_true, if_false, h]
        exact ⟨by rw [gR_ok e1, gR_ok h], fun c y r h1 h2 => by injection h1 with h1; subst h1; rw [e1] at h2; injection h2 with h2; injection h2 with h2; rw [gV_ok h, ← h2]; rfl⟩
    | true =>
      simp only [if_true]
      cases h0 : getText cur with
      | error e =>
        have e1 : entR true cur = .error e := by simp only [entR, bothR, nmR, if_true, h0]
        exact ⟨by rw [gR_err e1, gR_err h0]; rfl, fun c y r h1 h2 => by injection h1 with h1; subst h1; rw [e1] at h2; cases h2⟩
      | ok q =>
        rw [gR_ok h0]
        cases h : getValue q.2 with
        | error e =>
          have e1 : entR true cur = .error e := by simp only [entR, bothR, nmR, if_true, h0, h]
          exact ⟨by rw [gR_err e1, gR_err h], fun c y r h1 h2 => by injection h1 with h1; subst h1; rw [e1] at h2; cases h2⟩
        | ok p =>
          have e1 : entR true cur = .ok ((q.1, p.1), p.2) := by simp only [entR, bothR, nmR, if_true, h0, h]
          exact ⟨by rw [gR_ok e1, gR_ok h], fun c y r h1 h2 => by injection h1 with h1; subst h1; rw [e1] at h2; injection h2 with h2; injection h2 with h2; rw [gV_ok h0, gV_ok h, ← h2]; rfl⟩
end Sb

/- Plain mathematics of bodies of requests: what is got hangs on what is got alone; cut it ends too early. No conditions. -/
namespace Sb
/-- what is got hangs on its own bytes alone, and cut it ends too early -/
def Lc {α : Type} (g : B → Res α) : Prop := ∀ b x r, g b = .ok (x, r) → ∃ y, b = y ++ r ∧ (∀ r', g (y ++ r') = .ok (x, r')) ∧ (∀ k, k < y.length → g (y.take k) = .error 10)
theorem Lc.bind {α β : Type} {g : B → Res α} {f : α → B → Res β} (G : Lc g) (F : ∀ a, Lc (f a)) : Lc (fun b => bindR (g b) f) := by
  intro b x r h
  cases hg : g b with
  | error e => simp only [bindR_err hg] at h; cases h
  | ok p =>
    obtain ⟨a, b1⟩ := p
    simp only [bindR_ok hg] at h
    obtain ⟨y1, e1, l1, c1⟩ := G b a b1 hg
    obtain ⟨y2, e2, l2, c2⟩ := F a b1 x r h
    refine ⟨y1 ++ y2, by rw [e1, e2, List.append_assoc], fun r' => ?_, fun k hk => ?_⟩
    · show bindR (g (y1 ++ y2 ++ r')) f = _
      rw [List.append_assoc, bindR_ok (l1 _)]
      exact l2 r'
    · show bindR (g ((y1 ++ y2).take k)) f = _
      by_cases h1 : k < y1.length
      · rw [take_app_lt h1, bindR_err (c1 k h1)]
      · rw [take_app_ge h1, bindR_ok (l1 _)]
        exact c2 _ (by rw [List.length_append] at hk; omega)
theorem Lc.pure {α : Type} (x : α) : Lc (fun b => (.ok (x, b) : Res α)) := fun b y r h => by
  injection h with h; injection h with h1 h2
  subst h1 h2
  exact ⟨[], rfl, fun r' => rfl, fun k hk => by cases hk⟩
theorem Lc.err {α : Type} (e : Int) : Lc (fun _ => (.error e : Res α)) := fun b y r h => by cases h
theorem Lc.ite {α : Type} {c : Prop} [Decidable c] {g f : B → Res α} (G : Lc g) (F : Lc f) : Lc (fun b => if c then g b else f b) := by
  by_cases h : c
  · simp only [if_pos h]; exact G
  · simp only [if_neg h]; exact F
theorem lcN (n : Nat) : Lc (getN n) := by
  intro b x r h
  have h1 := getN_ok h
  refine ⟨b.take n, by rw [h1.2.2.1, List.take_append_drop], fun r' => ?_, fun k hk => ?_⟩
  · have hl : (b.take n).length = n := by rw [List.length_take]; omega
    unfold getN at h ⊢
    rw [if_neg (by omega)] at h
    rw [if_neg (by rw [List.length_append]; omega)]
    injection h with h; injection h with h2 h3
    rw [← h2, List.take_append_of_le_length (by omega), List.take_take, Nat.min_self, List.drop_append_of_le_length (by omega), List.drop_take, Nat.sub_self, List.take_zero, List.nil_append]
  · rw [List.length_take] at hk
    unfold getN
    rw [if_pos (by rw [List.length_take, List.length_take]; omega)]
theorem lcTake (n : Nat) : Lc (takeN n) := by
  intro b x r h
  have h1 := takeN_ok h
  refine ⟨b.take n, by rw [h1.2.2, List.take_append_drop], fun r' => ?_, fun k hk => ?_⟩
  · have hl : (b.take n).length = n := by rw [List.length_take]; omega
    unfold takeN
    rw [if_neg (by rw [List.length_append]; omega), h1.2.1, List.take_append_of_le_length (by omega), List.take_take, Nat.min_self, List.drop_append_of_le_length (by omega), List.drop_take, Nat.sub_self, List.take_zero, List.nil_append]
  · rw [List.length_take] at hk
    unfold takeN
    rw [if_pos (by rw [List.length_take, List.length_take]; omega)]
theorem eqText : getText = fun b => bindR (getN 2 b) takeN := by funext b; unfold getText bindR; cases getN 2 b <;> rfl
theorem eqNum : getNum = fun b => bindR (getN 4 b) fun x r => .ok (sgn 4 x, r) := by funext b; unfold getNum bindR; cases getN 4 b <;> rfl
theorem eqLong : getLong = fun b => bindR (getNum b) fun n r => if n < 0 then .error 11 else takeN n.toNat r := by funext b; unfold getLong bindR; cases getNum b <;> rfl
theorem eqValue : getValue = fun b => bindR (getNum b) fun n r => if n = -1 then .ok (⟨0, []⟩, r) else if n = -2 then .ok (⟨1, []⟩, r) else if n < 0 then .error 11 else bindR (takeN n.toNat r) fun x r2 => .ok (⟨2, x⟩, r2) := by
  funext b
  unfold getValue bindR
  cases getNum b with
  | error e => rfl
  | ok p =>
    obtain ⟨n, r⟩ := p
    simp only
    split
    · rfl
    · split
      · rfl
      · split
        · rfl
        · cases takeN n.toNat r <;> rfl
theorem eqCons : getCons = fun b => bindR (getN 2 b) fun c r => if c > 10 then .error 11 else .ok (c, r) := by funext b; unfold getCons bindR; cases getN 2 b <;> rfl
theorem eqL {α : Type} (f : B → Res α) : getL f = fun b => bindR (getN 2 b) fun n r => getsM f n r := by funext b; unfold getL bindR; cases getN 2 b <;> rfl
theorem eqBoth {α β : Type} (f : B → Res α) (g : B → Res β) : bothR f g = fun b => bindR (f b) fun x r => bindR (g r) fun y r2 => .ok ((x, y), r2) := by
  funext b
  unfold bothR bindR
  cases f b with
  | error e => rfl
  | ok p => cases hg : g p.2 <;> simp only [hg]
theorem eqMs {α : Type} (f : B → Res α) (n : Nat) : getsM f (n + 1) = fun b => bindR (f b) fun x r => bindR (getsM f n r) fun l r2 => .ok (x :: l, r2) := by
  funext b
  rw [getsM]
  unfold bindR
  cases f b with
  | error e => rfl
  | ok p => cases hg : getsM f n p.2 <;> simp only [hg]
theorem lcText : Lc getText := by rw [eqText]; exact (lcN 2).bind lcTake
theorem lcNum : Lc getNum := by rw [eqNum]; exact (lcN 4).bind fun x => .pure _
theorem lcLong : Lc getLong := by rw [eqLong]; exact lcNum.bind fun n => .ite (.err _) (lcTake _)
theorem lcValue : Lc getValue := by rw [eqValue]; exact lcNum.bind fun n => .ite (.pure _) (.ite (.pure _) (.ite (.err _) ((lcTake _).bind fun x => .pure _)))
theorem lcCons : Lc getCons := by rw [eqCons]; exact (lcN 2).bind fun n => .ite (.err _) (.pure _)
theorem lcI8 : Lc getI8 := (lcN 8).bind fun x => .pure _
theorem lcMs {α : Type} {f : B → Res α} (F : Lc f) : ∀ n, Lc (getsM f n)
  | 0 => .pure []
  | n + 1 => by rw [eqMs]; exact F.bind fun x => (lcMs F n).bind fun l => .pure _
theorem lcL {α : Type} {f : B → Res α} (F : Lc f) : Lc (getL f) := by rw [eqL]; exact (lcN 2).bind fun n => lcMs F n
theorem lcBoth {α β : Type} {f : B → Res α} {g : B → Res β} (F : Lc f) (G : Lc g) : Lc (bothR f g) := by rw [eqBoth]; exact F.bind fun x => G.bind fun y => .pure _
theorem lcNm (n : Bool) : Lc (nmR n) := by
  cases n with
  | true => exact lcText
  | false => exact .pure []
theorem lcVals (n : Bool) : Lc (getVals n) := (lcN 2).bind fun k => lcMs (lcBoth (lcNm n) lcValue) k
theorem lcOpt {α : Type} {c : Bool} {d : α} {g : B → Res α} (G : Lc g) : Lc (optR c d g) := .ite G (.pure d)
theorem lcRun (batch : Bool) : Lc (getRun batch) :=
  lcCons.bind fun c => (lcN 1).bind fun f => .ite (.err _) ((lcOpt ((lcVals _).bind fun l => .ite (.err _) (.pure _))).bind fun l => (lcOpt lcNum).bind fun pg => (lcOpt lcValue).bind fun st => (lcOpt lcCons).bind fun sr => (lcOpt lcI8).bind fun tm => .pure _)
theorem lcStm : Lc getStm :=
  (lcN 1).bind fun k => .ite (.err _) ((Lc.ite (lcText.bind fun s => .pure _) (lcLong.bind fun s => .pure _)).bind fun s => (lcVals false).bind fun l => .pure _)
theorem lcParts (op : Nat) : Lc (getParts op) :=
  .ite ((lcL (lcBoth lcText lcText)).bind fun l => .pure _) (.ite (.pure _) (.ite (lcLong.bind fun s => (lcRun false).bind fun p => .pure _) (.ite (lcLong.bind fun s => .pure _) (.ite (lcText.bind fun s => (lcRun false).bind fun p => .pure _)
    (.ite ((lcL lcText).bind fun l => .pure _) (.ite (lcValue.bind fun v => .pure _) (.ite ((lcN 1).bind fun k => .ite (.err _) (((lcN 2).bind fun n => lcMs lcStm n).bind fun l => (lcRun true).bind fun p => .pure _)) (.err 22))))))))
theorem getRq_parts {op : Nat} {b : B} {q : Rq} (h : getRq op b = .ok q) : getParts op b = .ok (q, []) := by
  unfold getRq at h
  cases hp : getParts op b with
  | error e => rw [hp] at h; cases h
  | ok p =>
    obtain ⟨x, r⟩ := p
    rw [hp] at h
    simp only at h
    split at h
    · rename_i h0
      injection h with h
      rw [h, List.length_eq_zero_iff.1 h0]
    · cases h
/-- a body that may be, with a byte behind it, is none -/
theorem getRq_more {op : Nat} {b : B} {q : Rq} (m : UInt8) (h : getRq op b = .ok q) : getRq op (b ++ [m]) = .error 23 := by
  obtain ⟨y, e, l, c⟩ := lcParts op b q [] (getRq_parts h)
  rw [List.append_nil] at e
  subst e
  unfold getRq
  rw [l [m]]
  rfl
/-- a body that may be, cut, ends too early -/
theorem getRq_cut {op : Nat} {b : B} {q : Rq} {k : Nat} (h : getRq op b = .ok q) (hk : k < b.length) : getRq op (b.take k) = .error 10 := by
  obtain ⟨y, e, l, c⟩ := lcParts op b q [] (getRq_parts h)
  rw [List.append_nil] at e
  subst e
  unfold getRq
  rw [c k hk]
/-- errors are none that is nought -/
def Nz {α : Type} (g : B → Res α) : Prop := ∀ b e, g b = .error e → e ≠ 0
theorem Nz.bind {α β : Type} {g : B → Res α} {f : α → B → Res β} (G : Nz g) (F : ∀ a, Nz (f a)) : Nz (fun b => bindR (g b) f) := by
  intro b e h
  cases hg : g b with
  | error e' => simp only [bindR_err hg] at h; injection h with h; rw [← h]; exact G b e' hg
  | ok p => obtain ⟨a, b1⟩ := p; simp only [bindR_ok hg] at h; exact F a b1 e h
theorem Nz.pure {α : Type} (x : α) : Nz (fun b => (.ok (x, b) : Res α)) := fun b e h => by cases h
theorem Nz.err {α : Type} {e : Int} (he : e ≠ 0) : Nz (fun _ => (.error e : Res α)) := fun b y h => by injection h with h; rw [← h]; exact he
theorem Nz.ite {α : Type} {c : Prop} [Decidable c] {g f : B → Res α} (G : Nz g) (F : Nz f) : Nz (fun b => if c then g b else f b) := by
  by_cases h : c
  · simp only [if_pos h]; exact G
  · simp only [if_neg h]; exact F
theorem nzN (n : Nat) : Nz (getN n) := fun b e h => by have := getN_err h; omega
theorem nzTake (n : Nat) : Nz (takeN n) := fun b e h => by have := takeN_err h; omega
theorem nzText : Nz getText := by rw [eqText]; exact (nzN 2).bind nzTake
theorem nzNum : Nz getNum := by rw [eqNum]; exact (nzN 4).bind fun x => .pure _
theorem nzLong : Nz getLong := by rw [eqLong]; exact nzNum.bind fun n => .ite (.err (by decide)) (nzTake _)
theorem nzValue : Nz getValue := by rw [eqValue]; exact nzNum.bind fun n => .ite (.pure _) (.ite (.pure _) (.ite (.err (by decide)) ((nzTake _).bind fun x => .pure _)))
theorem nzCons : Nz getCons := by rw [eqCons]; exact (nzN 2).bind fun n => .ite (.err (by decide)) (.pure _)
theorem nzI8 : Nz getI8 := (nzN 8).bind fun x => .pure _
theorem nzMs {α : Type} {f : B → Res α} (F : Nz f) : ∀ n, Nz (getsM f n)
  | 0 => .pure []
  | n + 1 => by rw [eqMs]; exact F.bind fun x => (nzMs F n).bind fun l => .pure _
theorem nzL {α : Type} {f : B → Res α} (F : Nz f) : Nz (getL f) := by rw [eqL]; exact (nzN 2).bind fun n => nzMs F n
theorem nzBoth {α β : Type} {f : B → Res α} {g : B → Res β} (F : Nz f) (G : Nz g) : Nz (bothR f g) := by rw [eqBoth]; exact F.bind fun x => G.bind fun y => .pure _
theorem nzNm (n : Bool) : Nz (nmR n) := by
  cases n with
  | true => exact nzText
  | false => exact .pure []
theorem nzVals (n : Bool) : Nz (getVals n) := (nzN 2).bind fun k => nzMs (nzBoth (nzNm n) nzValue) k
theorem nzOpt {α : Type} {c : Bool} {d : α} {g : B → Res α} (G : Nz g) : Nz (optR c d g) := .ite G (.pure d)
theorem nzRun (batch : Bool) : Nz (getRun batch) :=
  nzCons.bind fun c => (nzN 1).bind fun f => .ite (.err (by decide)) ((nzOpt ((nzVals _).bind fun l => .ite (.err (by decide)) (.pure _))).bind fun l => (nzOpt nzNum).bind fun pg => (nzOpt nzValue).bind fun st => (nzOpt nzCons).bind fun sr => (nzOpt nzI8).bind fun tm => .pure _)
theorem nzStm : Nz getStm :=
  (nzN 1).bind fun k => .ite (.err (by decide)) ((Nz.ite (nzText.bind fun s => .pure _) (nzLong.bind fun s => .pure _)).bind fun s => (nzVals false).bind fun l => .pure _)
theorem nzParts (op : Nat) : Nz (getParts op) :=
  .ite ((nzL (nzBoth nzText nzText)).bind fun l => .pure _) (.ite (.pure _) (.ite (nzLong.bind fun s => (nzRun false).bind fun p => .pure _) (.ite (nzLong.bind fun s => .pure _) (.ite (nzText.bind fun s => (nzRun false).bind fun p => .pure _)
    (.ite ((nzL nzText).bind fun l => .pure _) (.ite (nzValue.bind fun v => .pure _) (.ite ((nzN 1).bind fun k => .ite (.err (by decide)) (((nzN 2).bind fun n => nzMs nzStm n).bind fun l => (nzRun true).bind fun p => .pure _)) (.err (by decide)))))))))
theorem getRq_ne {op : Nat} {b : B} {e : Int} (h : getRq op b = .error e) : e ≠ 0 := by
  unfold getRq at h
  cases hp : getParts op b with
  | error e' => rw [hp] at h; injection h with h; rw [← h]; exact nzParts op b e' hp
  | ok p =>
    obtain ⟨x, r⟩ := p
    rw [hp] at h
    simp only at h
    split at h
    · cases h
    · injection h with h; rw [← h]; decide
theorem gR_must {α : Type} {g : B → Res α} {ok : Bool} {e : Int} (s : Wr) : gR (fun b => if ok = false then .error e else g b) s = gR g (mustR ok e s) := by
  cases s with
  | error e => rfl
  | ok cur => cases ok <;> simp [gR, mustR]
theorem tie_must {α : Type} {g : B → Res α} {ok : Bool} {e : Int} {s : Wr} {x : α} (h : Tie g (mustR ok e s) x) : Tie (fun b => if ok = false then .error e else g b) s x := by
  intro cur y rest h1 h2
  subst h1
  cases ok with
  | false => simp at h2
  | true => exact h cur y rest rfl (by simpa using h2)
theorem tie_bindT {α β : Type} {g : B → Res α} {f : α → B → Res β} {s : Wr} {a : α} {x : β} (ha : Tie g s a) (h : Tie (f a) (gR g s) x) : Tie (fun b => bindR (g b) f) s x := by
  intro cur y rest h1 h2
  subst h1
  cases hq : g cur with
  | error e => simp only [bindR_err hq] at h2; cases h2
  | ok p =>
    obtain ⟨b, r⟩ := p
    simp only [bindR_ok hq] at h2
    obtain rfl := ha cur b r rfl hq
    rw [gR_ok hq] at h
    exact h r y rest rfl h2
/-- the state behind a reading does not hang on what is made of its value -/
theorem gR_bindT {α β : Type} {g : B → Res α} {f : α → B → Res β} {s : Wr} {a : α} (ha : Tie g s a) : gR (fun b => bindR (g b) f) s = gR (f a) (gR g s) := by
  cases s with
  | error e => rfl
  | ok cur =>
    cases hq : g cur with
    | error e => rw [gR_err hq, gR_err (bindR_err hq)]; rfl
    | ok p =>
      obtain ⟨x, r⟩ := p
      obtain rfl := ha cur x r rfl hq
      rw [gR_ok hq]
      have e := bindR_ok (f := f) hq
      simp only [gR, e]
theorem num_R (s : Wr) : gR getNum s = gR (getN 4) s ∧ gV 0 getNum s = sgn 4 (gV 0 (getN 4) s) := by
  cases s with
  | error e => exact ⟨rfl, by simp [gV, sgn]⟩
  | ok cur =>
    cases h : getN 4 cur with
    | error e =>
      have e1 : getNum cur = .error e := by unfold getNum; rw [h]
      exact ⟨by rw [gR_err h, gR_err e1], by rw [gV_ok h, gV_ok e1]; simp [rval, sgn]⟩
    | ok p =>
      obtain ⟨x, r⟩ := p
      have e1 : getNum cur = .ok (sgn 4 x, r) := by unfold getNum; rw [h]
      exact ⟨by rw [gR_ok h, gR_ok e1], by rw [gV_ok h, gV_ok e1]; rfl⟩
end Sb
