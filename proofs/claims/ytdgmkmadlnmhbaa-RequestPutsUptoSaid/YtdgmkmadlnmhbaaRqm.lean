/- Plain mathematics of bodies of requests (layer 8): read; no program in sight. No conditions. -/
import Derived.Test.YtdgmkmadlnmhbaaPlaine
set_option linter.unusedVariables false
set_option linter.unusedSimpArgs false
namespace Sb

/-- a reading in a state: the value, and the state behind -/
def gV {α : Type} (d : α) (g : B → Res α) : Wr → α | .ok cur => rval d (g cur) | .error _ => d
def gR {α : Type} (g : B → Res α) : Wr → Wr | .ok cur => (match g cur with | .ok x => .ok x.2 | .error e => .error e) | .error e => .error e
theorem gV_ok {α : Type} {d : α} {g : B → Res α} {cur : B} {r : Res α} (h : g cur = r) : gV d g (.ok cur) = rval d r := by subst h; rfl
theorem gR_ok {α : Type} {g : B → Res α} {cur : B} {x : α × B} (h : g cur = .ok x) : gR g (.ok cur) = .ok x.2 := by simp only [gR, h]
theorem gR_err {α : Type} {g : B → Res α} {cur : B} {e : Int} (h : g cur = .error e) : gR g (.ok cur) = .error e := by simp only [gR, h]
theorem gR_of {α : Type} (g : B → Res α) (e : Int) : gR g (.error e) = .error e := rfl
theorem gV_of {α : Type} (d : α) (g : B → Res α) (e : Int) : gV d g (.error e) = d := rfl
/-- what fails unless something is so -/
def mustR (is : Bool) (e : Int) : Wr → Wr | .ok cur => if is then .ok cur else .error e | .error e' => .error e'
/-- what a statement is run with -/
structure Par where
  cons : Nat
  values : List Val
  names : List B
  skip : Bool
  paged : Bool
  page : Int
  resumed : Bool
  state : Val
  serially : Bool
  serial : Nat
  timed : Bool
  time : Int
def Par.none : Par := ⟨0, [], [], false, false, 0, false, Val.none, false, 0, false, 0⟩
/-- a statement of a batch -/
structure Stm where
  prepared : Bool
  text : B
  ident : B
  values : List Val
def Stm.none : Stm := ⟨false, [], [], []⟩
/-- a request -/
structure Rq where
  opcode : Nat
  options : List (B × B)
  text : B
  ident : B
  run : Par
  events : List B
  token : Val
  kind : Nat
  all : List Stm
def Rq.none : Rq := ⟨0, [], [], [], Par.none, [], Val.none, 0, []⟩
def Rq.of (op : Nat) : Rq := { Rq.none with opcode := op }

/-- one reading behind another -/
def bindR {α β : Type} (r : Res α) (f : α → B → Res β) : Res β := match r with | .error e => .error e | .ok (x, b) => f x b
def nmR (named : Bool) (b : B) : Res B := if named then getText b else .ok ([], b)
/-- a value of a run, with its name -/
def entR (named : Bool) : B → Res (B × Val) := bothR (nmR named) getValue
def getVals (named : Bool) (b : B) : Res (List (B × Val)) := bindR (getN 2 b) fun n r => getsM (entR named) n r
def nmsV (named : Bool) (l : List (B × Val)) : List B := if named then l.map (·.1) else []
def bitB (f k : Nat) : Bool := f / 2 ^ k % 2 == 1
/-- flags that may be -/
def flagsOk (batch : Bool) (f : Nat) : Bool := decide (f < 128) && (!bitB f 6 || bitB f 0) && (!batch || decide (f % 16 = 0 ∧ f < 64))
def getI8 (b : B) : Res Int := bindR (getN 8 b) fun x r => .ok (sgn 8 x, r)
def optR {α : Type} (c : Bool) (d : α) (g : B → Res α) (b : B) : Res α := if c then g b else .ok (d, b)
def valsR (f : Nat) (b : B) : Res (List (B × Val)) := optR (bitB f 0) [] (fun b => bindR (getVals (bitB f 6) b) fun l r => if l.length = 0 then .error 11 else .ok (l, r)) b
def parOf (c f : Nat) (l : List (B × Val)) (pg : Int) (st : Val) (sr : Nat) (tm : Int) : Par :=
  ⟨c, l.map (·.2), nmsV (bitB f 6) l, bitB f 1, bitB f 2, pg, bitB f 3, st, bitB f 4, sr, bitB f 5, tm⟩
/-- a run -/
def getRun (batch : Bool) (b : B) : Res Par :=
  bindR (getCons b) fun c b => bindR (getN 1 b) fun f b => if flagsOk batch f = false then .error 21 else
  bindR (valsR f b) fun l b => bindR (optR (bitB f 2) 0 getNum b) fun pg b => bindR (optR (bitB f 3) Val.none getValue b) fun st b =>
  bindR (optR (bitB f 4) 0 getCons b) fun sr b => bindR (optR (bitB f 5) 0 getI8 b) fun tm b => .ok (parOf c f l pg st sr tm, b)
/-- a statement of a batch -/
def getStm (b : B) : Res Stm := bindR (getN 1 b) fun k b => if 1 < k then .error 11 else
  bindR (if k = 1 then bindR (getText b) fun s r => .ok ((⟨true, [], s, []⟩ : Stm), r) else bindR (getLong b) fun s r => .ok ((⟨false, s, [], []⟩ : Stm), r)) fun s b =>
  bindR (getVals false b) fun l b => .ok ({ s with values := l.map (·.2) }, b)
def getAll (b : B) : Res (List Stm) := bindR (getN 2 b) fun n r => getsM getStm n r
/-- a body's parts -/
def getParts (op : Nat) (b : B) : Res Rq :=
  if op = 1 then bindR (getL pairR b) fun l r => .ok ({ Rq.of op with options := l }, r)
  else if op = 5 then .ok (Rq.of op, b)
  else if op = 7 then bindR (getLong b) fun s r => bindR (getRun false r) fun p r => .ok ({ Rq.of op with text := s, run := p }, r)
  else if op = 9 then bindR (getLong b) fun s r => .ok ({ Rq.of op with text := s }, r)
  else if op = 10 then bindR (getText b) fun s r => bindR (getRun false r) fun p r => .ok ({ Rq.of op with ident := s, run := p }, r)
  else if op = 11 then bindR (getTexts b) fun l r => .ok ({ Rq.of op with events := l }, r)
  else if op = 15 then bindR (getValue b) fun v r => .ok ({ Rq.of op with token := v }, r)
  else if op = 13 then bindR (getN 1 b) fun k r => if 2 < k then .error 11 else bindR (getAll r) fun l r => bindR (getRun true r) fun p r => .ok ({ Rq.of op with kind := k, all := l, run := p }, r)
  else .error 22
/-- a request of a body -/
def getRq (op : Nat) (b : B) : Except Int Rq := match getParts op b with
  | .error e => .error e
  | .ok (x, r) => if r.length = 0 then .ok x else .error 23
end Sb
namespace Sb
/-- a value that is what is got, where something is got -/
def Tie {α : Type} (g : B → Res α) (s : Wr) (x : α) : Prop := ∀ cur y rest, s = .ok cur → g cur = .ok (y, rest) → x = y
theorem Tie.err {α : Type} {g : B → Res α} {e : Int} {x : α} : Tie g (.error e) x := fun cur y rest h => by cases h
theorem Tie.gV {α : Type} {g : B → Res α} {s : Wr} {d : α} : Tie g s (gV d g s) := fun cur y rest h1 h2 => by subst h1; rw [gV_ok h2]; rfl
/-- how far a row of readings is -/
def PrgG {α : Type} (g : B → Res α) (m : Nat) (s3 : Wr) (k : Nat) (l : List α) (st : Wr) : Prop :=
  (∀ rest, st = .ok rest → ∃ c0, s3 = .ok c0 ∧ getsM g k c0 = .ok (l, rest)) ∧
  (∀ e, st = .error e → (∀ c0, s3 = .ok c0 → getsM g m c0 = .error e) ∧ (∀ e', s3 = .error e' → e = e'))
theorem PrgG.zero {α : Type} (g : B → Res α) (m : Nat) (s3 : Wr) : PrgG g m s3 0 [] s3 := ⟨fun rest h => ⟨rest, h, rfl⟩, fun e h => ⟨fun c0 h2 => (by rw [h] at h2; cases h2), fun e' h2 => (by rw [h] at h2; injection h2)⟩⟩
theorem PrgG.step {α : Type} {g : B → Res α} {m k : Nat} {s3 : Wr} {l : List α} {rest : B} (h : PrgG g m s3 k l (.ok rest)) (hk : k < m) (x : α) (hx : Tie g (.ok rest) x) : PrgG g m s3 (k + 1) (l ++ [x]) (gR g (.ok rest)) := by
  obtain ⟨c0, hc, hg⟩ := h.1 rest rfl
  cases hq : g rest with
  | ok p =>
    obtain ⟨y, r2⟩ := p
    obtain rfl := hx rest y r2 rfl hq
    rw [gR_ok hq]
    exact ⟨fun r h => by injection h with h; subst h; exact ⟨c0, hc, getsM_snoc hg hq⟩, fun e h => by cases h⟩
  | error e =>
    rw [gR_err hq]
    refine ⟨fun r h => (by cases h), fun e' h => ?_⟩
    injection h with h
    subst h
    refine ⟨fun c1 h1 => ?_, fun e' h1 => ?_⟩
    · rw [hc] at h1
      injection h1 with h1
      subst h1
      exact getsM_stop hk hg hq
    · rw [hc] at h1; cases h1
theorem PrgG.fin {α : Type} {g : B → Res α} {m k : Nat} {s3 : Wr} {l : List α} {st : Wr} (h : PrgG g m s3 k l st) (hx : k = m ∨ ∃ e, st = .error e) : st = gR (getsM g m) s3 ∧ Tie (getsM g m) s3 l := by
  cases st with
  | ok rest =>
    obtain ⟨c0, hc, hg⟩ := h.1 rest rfl
    rcases hx with rfl | ⟨e, he⟩
    · subst hc
      rw [gR_ok hg]
      exact ⟨rfl, fun cur y r h1 h2 => by injection h1 with h1; subst h1; rw [hg] at h2; injection h2 with h2; injection h2 with h2⟩
    · cases he
  | error e =>
    obtain ⟨h1, h2⟩ := h.2 e rfl
    cases s3 with
    | error e' => exact ⟨by rw [h2 e' rfl]; rfl, Tie.err⟩
    | ok c0 => exact ⟨by rw [gR_err (h1 c0 rfl)], fun cur y r h3 h4 => by injection h3 with h3; subst h3; rw [h1 _ rfl] at h4; cases h4⟩
theorem bindR_ok {α β : Type} {r : Res α} {f : α → B → Res β} {x : α} {b : B} (h : r = .ok (x, b)) : bindR r f = f x b := by subst h; rfl
theorem bindR_err {α β : Type} {r : Res α} {f : α → B → Res β} {e : Int} (h : r = .error e) : bindR r f = .error e := by subst h; rfl
/-- one reading behind another, in a state -/
theorem gR_bind {α β : Type} (d : α) (g : B → Res α) (f : α → B → Res β) (s : Wr) : gR (fun b => bindR (g b) f) s = gR (f (gV d g s)) (gR g s) := by
  cases s with
  | error e => rfl
  | ok cur =>
    cases h : g cur with
    | error e => rw [gR_err h, gR_err (bindR_err h)]; rfl
    | ok p =>
      obtain ⟨x, r⟩ := p
      rw [gR_ok h, gV_ok h]
      have e := bindR_ok (f := f) h
      simp only [gR, e, rval_ok]
theorem tie_bind {α β : Type} {d : α} {g : B → Res α} {f : α → B → Res β} {s : Wr} {x : β} (h : Tie (f (gV d g s)) (gR g s) x) : Tie (fun b => bindR (g b) f) s x := by
  intro cur y rest h1 h2
  subst h1
  cases hq : g cur with
  | error e => simp only [bindR_err hq] at h2; cases h2
  | ok p =>
    obtain ⟨a, r⟩ := p
    simp only [bindR_ok hq] at h2
    rw [gV_ok hq, gR_ok hq] at h
    exact h r y rest rfl h2
theorem gV_lt {n : Nat} (s : Wr) : gV 0 (getN n) s < 256 ^ n := by
  have hp : 0 < 256 ^ n := Nat.pow_pos (by decide)
  cases s with
  | error e => exact hp
  | ok cur =>
    cases h : getN n cur with
    | error e => rw [gV_ok h]; exact hp
    | ok p => rw [gV_ok h]; exact (getN_ok (x := p.1) (r := p.2) h).2.2.2
theorem gV_text (g : B → Res B) (hg : ∀ b x r, g b = .ok (x, r) → x.length + r.length ≤ b.length) (s : Wr) (hs : ∀ cur, s = .ok cur → cur.length ≤ 140737488355328) : (gV [] g s).length ≤ 140737488355328 := by
  cases s with
  | error e => exact Nat.zero_le _
  | ok cur =>
    cases h : g cur with
    | error e => rw [gV_ok h]; exact Nat.zero_le _
    | ok p => rw [gV_ok h]; have := hg cur p.1 p.2 h; have := hs cur rfl; simp only [rval_ok]; omega
theorem ent_R (named : Bool) (s : Wr) : gR (entR named) s = gR getValue (if named then gR getText s else s) ∧ Tie (entR named) s ((if named then gV [] getText s else []), gV Val.none getValue (if named then gR getText s else s)) := by
  cases s with
  | error e => cases named <;> exact ⟨rfl, Tie.err⟩
  | ok cur =>
    cases named with
    | false =>
      simp only [Bool.false_eq_true, if_false]
      cases h : getValue cur with
      | error e =>
        have e1 : entR false cur = .error e := by simp only [entR, bothR, nmR, Bool.false_eq_true, if_false, h]
        exact ⟨by rw [gR_err e1, gR_err h], fun c y r h1 h2 => by injection h1 with h1; subst h1; rw [e1] at h2; cases h2⟩
      | ok p =>
        have e1 : entR false cur = .ok (([], p.1), p.2) := by simp only [entR, bothR, nmR, Bool.false_eq_true, if_false, h]
        exact ⟨by rw [gR_ok e1, gR_ok h], fun c y r h1 h2 => by injection h1 with h1; subst h1; rw [e1] at h2; injection h2 with h2; injection h2 with h2; rw [gV_ok h, ← h2]; rfl⟩
    | true =>
      simp only [if_true]
      cases h0 : getText cur with
      | error e =>
        have e1 : entR true cur = .error e := by simp only [entR, bothR, nmR, if_true, h0]
        exact ⟨by rw [gR_err e1, gR_err h0]; rfl, fun c y r h1 h2 => by injection h1 with h1; subst h1; rw [e1] at h2; cases h2⟩
      | ok q =>
        rw [gR_ok h0]
        cases h : getValue q.2 with
        | error e =>
          have e1 : entR true cur = .error e := by simp only [entR, bothR, nmR, if_true, h0, h]
          exact ⟨by rw [gR_err e1, gR_err h], fun c y r h1 h2 => by injection h1 with h1; subst h1; rw [e1] at h2; cases h2⟩
        | ok p =>
          have e1 : entR true cur = .ok ((q.1, p.1), p.2) := by simp only [entR, bothR, nmR, if_true, h0, h]
          exact ⟨by rw [gR_ok e1, gR_ok h], fun c y r h1 h2 => by injection h1 with h1; subst h1; rw [e1] at h2; injection h2 with h2; injection h2 with h2; rw [gV_ok h0, gV_ok h, ← h2]; rfl⟩
end Sb
