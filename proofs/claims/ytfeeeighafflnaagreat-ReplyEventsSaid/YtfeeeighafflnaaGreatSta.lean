/- Plain mathematics of bodies of replies (layer 9): put, got; what is got is put as it was; no program in sight. No conditions. -/
import Derived.Test.YtfeeeighafflnaaGreatRqm
set_option linter.unusedVariables false
set_option linter.unusedSimpArgs false
namespace Sb
/-- a change of a schema -/
structure Chg where
  what : B
  target : B
  space : B
  name : B
  args : List B
def Chg.none : Chg := ⟨[], [], [], [], []⟩
/-- what an error tells -/
structure Flt where
  code : Nat
  text : B
  level : Nat
  received : Int
  needed : Int
  failures : Int
  data : Nat
  write : B
  space : B
  name : B
  args : List B
  ident : B
def Flt.none : Flt := ⟨0, [], 0, 0, 0, 0, 0, [], [], [], [], []⟩
def Flt.of (c : Nat) (t : B) : Flt := { Flt.none with code := c, text := t }
/-- an event -/
structure Nte where
  kind : B
  what : B
  addr : Adr
  schema : Chg
def Nte.none : Nte := ⟨[], [], Adr.none, Chg.none⟩
/-- a reply -/
structure Rp where
  opcode : Nat
  fault : Flt
  text : B
  support : List (B × List B)
  token : Val
  note : Nte
  kind : Nat
  change : Chg
  ident : B
  rest : B
def Rp.none : Rp := ⟨0, Flt.none, [], [], Val.none, Nte.none, 0, Chg.none, [], []⟩
def Rp.of (op : Nat) : Rp := { Rp.none with opcode := op }

/-! words -/
def wCreated : B := [67, 82, 69, 65, 84, 69, 68]
def wUpdated : B := [85, 80, 68, 65, 84, 69, 68]
def wDropped : B := [68, 82, 79, 80, 80, 69, 68]
def wKeyspace : B := [75, 69, 89, 83, 80, 65, 67, 69]
def wTable : B := [84, 65, 66, 76, 69]
def wType : B := [84, 89, 80, 69]
def wFunction : B := [70, 85, 78, 67, 84, 73, 79, 78]
def wAggregate : B := [65, 71, 71, 82, 69, 71, 65, 84, 69]
def wTopology : B := [84, 79, 80, 79, 76, 79, 71, 89, 95, 67, 72, 65, 78, 71, 69]
def wStatus : B := [83, 84, 65, 84, 85, 83, 95, 67, 72, 65, 78, 71, 69]
def wSchema : B := [83, 67, 72, 69, 77, 65, 95, 67, 72, 65, 78, 71, 69]
def wNew : B := [78, 69, 87, 95, 78, 79, 68, 69]
def wRemoved : B := [82, 69, 77, 79, 86, 69, 68, 95, 78, 79, 68, 69]
def wMoved : B := [77, 79, 86, 69, 68, 95, 78, 79, 68, 69]
def wUp : B := [85, 80]
def wDown : B := [68, 79, 87, 78]
def wdsW : List B := [wCreated, wUpdated, wDropped]
def wdsT : List B := [wKeyspace, wTable, wType, wFunction, wAggregate]
def wdsE : List B := [wTopology, wStatus, wSchema]
def wdsN : List B := [wNew, wRemoved, wMoved]
def wdsU : List B := [wUp, wDown]

/-! put -/
def wordW (ws : List B) (s : B) : Wr := if s ∈ ws then text s else .error 11
def num4W (i : Int) : Wr := .ok (enc 4 (i % 4294967296).toNat)
def tailW (t : B) (p : B × List B) : Wr := if t = wFunction ∨ t = wAggregate then bothW (text p.1) (texts p.2) else if t = wTable ∨ t = wType then text p.1 else .ok []
def chgW (c : Chg) : Wr := bothW (wordW wdsW c.what) (bothW (wordW wdsT c.target) (bothW (text c.space) (tailW c.target (c.name, c.args))))
def cntsW (f : Flt) (r : Wr) : Wr := bothW (cons f.level) (bothW (num4W f.received) (bothW (num4W f.needed) r))
def fltTW (f : Flt) : Wr :=
  if f.code = 4096 then bothW (cons f.level) (bothW (num4W f.needed) (num4W f.received))
  else if f.code = 4352 then cntsW f (text f.write)
  else if f.code = 4608 then cntsW f (.ok (enc 1 f.data))
  else if f.code = 4864 then cntsW f (bothW (num4W f.failures) (.ok (enc 1 f.data)))
  else if f.code = 5376 then cntsW f (bothW (num4W f.failures) (text f.write))
  else if f.code = 5120 then bothW (text f.space) (bothW (text f.name) (texts f.args))
  else if f.code = 9216 then bothW (text f.space) (text f.name)
  else if f.code = 9472 then text f.ident
  else .ok []
def fltW (f : Flt) : Wr := bothW (.ok (enc 4 f.code)) (bothW (text f.text) (fltTW f))
def nteW (n : Nte) : Wr := bothW (wordW wdsE n.kind) (if n.kind = wSchema then chgW n.schema else bothW (wordW (if n.kind = wTopology then wdsN else wdsU) n.what) (inet n.addr))
def resTW (r : Rp) : Wr :=
  if r.kind = 1 then .ok []
  else if r.kind = 3 then text r.text
  else if r.kind = 5 then chgW r.change
  else if r.kind = 4 then bothW (text r.ident) (.ok r.rest)
  else if r.kind = 2 then .ok r.rest
  else .error 11
def resW (r : Rp) : Wr := bothW (.ok (enc 4 r.kind)) (resTW r)
def putRp (r : Rp) : Wr :=
  if r.opcode = 0 then fltW r.fault
  else if r.opcode = 2 then .ok []
  else if r.opcode = 3 then text r.text
  else if r.opcode = 6 then putL multiW r.support
  else if r.opcode = 8 then resW r
  else if r.opcode = 12 then nteW r.note
  else if r.opcode = 14 ∨ r.opcode = 16 then value r.token
  else .error 22

/-! got -/
def mustB (is : Bool) (e : Int) {α : Type} (x : α) (b : B) : Res α := if is then .ok (x, b) else .error e
def wordR (ws : List B) (b : B) : Res B := bindR (getText b) fun s r => if s ∈ ws then .ok (s, r) else .error 11
def tailR (t : B) (b : B) : Res (B × List B) := if t = wFunction ∨ t = wAggregate then bindR (getText b) fun n b => bindR (getTexts b) fun a b => .ok ((n, a), b) else if t = wTable ∨ t = wType then bindR (getText b) fun n b => .ok ((n, []), b) else .ok (([], []), b)
def chgR (b : B) : Res Chg := bindR (wordR wdsW b) fun a b => bindR (wordR wdsT b) fun t b => bindR (getText b) fun s b => bindR (tailR t b) fun p b => .ok (⟨a, t, s, p.1, p.2⟩, b)
def fltTR (c : Nat) (t : B) (b : B) : Res Flt :=
  if c = 4096 then bindR (getCons b) fun l b => bindR (getNum b) fun n b => bindR (getNum b) fun r b => .ok ({ Flt.of c t with level := l, needed := n, received := r }, b)
  else if c = 4352 then bindR (getCons b) fun l b => bindR (getNum b) fun r b => bindR (getNum b) fun n b => bindR (getText b) fun w b => .ok ({ Flt.of c t with level := l, needed := n, received := r, write := w }, b)
  else if c = 4608 then bindR (getCons b) fun l b => bindR (getNum b) fun r b => bindR (getNum b) fun n b => bindR (getN 1 b) fun d b => .ok ({ Flt.of c t with level := l, needed := n, received := r, data := d }, b)
  else if c = 4864 then bindR (getCons b) fun l b => bindR (getNum b) fun r b => bindR (getNum b) fun n b => bindR (getNum b) fun f b => bindR (getN 1 b) fun d b => .ok ({ Flt.of c t with level := l, needed := n, received := r, failures := f, data := d }, b)
  else if c = 5376 then bindR (getCons b) fun l b => bindR (getNum b) fun r b => bindR (getNum b) fun n b => bindR (getNum b) fun f b => bindR (getText b) fun w b => .ok ({ Flt.of c t with level := l, needed := n, received := r, failures := f, write := w }, b)
  else if c = 5120 then bindR (getText b) fun s b => bindR (getText b) fun n b => bindR (getTexts b) fun a b => .ok ({ Flt.of c t with space := s, name := n, args := a }, b)
  else if c = 9216 then bindR (getText b) fun s b => bindR (getText b) fun n b => .ok ({ Flt.of c t with space := s, name := n }, b)
  else if c = 9472 then bindR (getText b) fun i b => .ok ({ Flt.of c t with ident := i }, b)
  else .ok (Flt.of c t, b)
def fltR (b : B) : Res Flt := bindR (getN 4 b) fun c b => bindR (getText b) fun t b => fltTR c t b
def nteR (b : B) : Res Nte := bindR (wordR wdsE b) fun k b => if k = wSchema then bindR (chgR b) fun c b => .ok (⟨k, [], Adr.none, c⟩, b) else bindR (wordR (if k = wTopology then wdsN else wdsU) b) fun w b => bindR (getInet b) fun a b => .ok (⟨k, w, a, Chg.none⟩, b)
def resTR (k : Nat) (b : B) : Res Rp :=
  if k = 1 then .ok ({ Rp.of 8 with kind := k }, b)
  else if k = 3 then bindR (getText b) fun s b => .ok ({ Rp.of 8 with kind := k, text := s }, b)
  else if k = 5 then bindR (chgR b) fun c b => .ok ({ Rp.of 8 with kind := k, change := c }, b)
  else if k = 4 then bindR (getText b) fun i b => .ok ({ Rp.of 8 with kind := k, ident := i, rest := b }, [])
  else if k = 2 then .ok ({ Rp.of 8 with kind := k, rest := b }, [])
  else .error 11
def resR (b : B) : Res Rp := bindR (getN 4 b) resTR
def partsRp (op : Nat) (b : B) : Res Rp :=
  if op = 0 then bindR (fltR b) fun f b => .ok ({ Rp.of op with fault := f }, b)
  else if op = 2 then .ok (Rp.of op, b)
  else if op = 3 then bindR (getText b) fun s b => .ok ({ Rp.of op with text := s }, b)
  else if op = 6 then bindR (getL multiR b) fun l b => .ok ({ Rp.of op with support := l }, b)
  else if op = 8 then resR b
  else if op = 12 then bindR (nteR b) fun n b => .ok ({ Rp.of op with note := n }, b)
  else if op = 14 ∨ op = 16 then bindR (getValue b) fun v b => .ok ({ Rp.of op with token := v }, b)
  else .error 22
def getRp (op : Nat) (b : B) : Except Int Rp := match partsRp op b with
  | .error e => .error e
  | .ok (x, r) => if r.length = 0 then .ok x else .error 23

/-! what is got is put as it was -/
theorem bindI {α β : Type} {r : Res α} {f : α → B → Res β} {y : β} {t : B} (h : bindR r f = .ok (y, t)) : ∃ x b, r = .ok (x, b) ∧ f x b = .ok (y, t) := by
  cases r with
  | error e => cases h
  | ok p => exact ⟨p.1, p.2, rfl, h⟩
theorem pureI {α : Type} {x y : α} {b t : B} (h : (.ok (x, b) : Res α) = .ok (y, t)) : x = y ∧ b = t := by
  injection h with h; injection h with h1 h2; exact ⟨h1, h2⟩
theorem both_mk {k v : Wr} {a b : B} (hk : k = .ok a) (hv : v = .ok b) : bothW k v = .ok (a ++ b) := by subst hk hv; rfl
theorem num4_fore : Fore num4W getNum := by
  intro b n r h
  obtain ⟨x, rfl, hx, hb⟩ := getNum_fore h
  refine ⟨_, rfl, ?_⟩
  have : (sgn 4 x % 4294967296).toNat = x := by
    unfold sgn
    simp only [Nat.reducePow, Nat.reduceDiv]
    split <;> omega
  rw [this]
  exact hb
theorem getN_foreW {n : Nat} : Fore (fun x => (.ok (enc n x) : Wr)) (getN n) := fun _ _ _ h => ⟨_, rfl, getN_fore h⟩
theorem word_fore (ws : List B) : Fore (wordW ws) (wordR ws) := by
  intro b x r h
  obtain ⟨s, b1, h1, h2⟩ := bindI h
  split at h2
  · rename_i hm
    obtain ⟨rfl, rfl⟩ := pureI h2
    obtain ⟨y, h3, h4⟩ := text_fore _ _ _ h1
    exact ⟨y, by unfold wordW; rw [if_pos hm, h3], h4⟩
  · cases h2
theorem tail_fore (t : B) : Fore (tailW t) (tailR t) := by
  intro b x r h
  unfold tailR at h
  unfold tailW
  split at h
  · rename_i hc
    obtain ⟨n, b1, h1, h⟩ := bindI h
    obtain ⟨a, b2, h2, h⟩ := bindI h
    obtain ⟨rfl, rfl⟩ := pureI h
    obtain ⟨y1, e1, rfl⟩ := text_fore _ _ _ h1
    obtain ⟨y2, e2, rfl⟩ := texts_fore _ _ _ h2
    exact ⟨y1 ++ y2, by rw [if_pos hc]; exact both_mk e1 e2, by rw [List.append_assoc]⟩
  · rename_i hc
    split at h
    · rename_i hd
      obtain ⟨n, b1, h1, h⟩ := bindI h
      obtain ⟨rfl, rfl⟩ := pureI h
      obtain ⟨y1, e1, rfl⟩ := text_fore _ _ _ h1
      exact ⟨y1, by rw [if_neg hc, if_pos hd]; exact e1, rfl⟩
    · rename_i hd
      obtain ⟨rfl, rfl⟩ := pureI h
      exact ⟨[], by rw [if_neg hc, if_neg hd], rfl⟩
theorem chg_fore : Fore chgW chgR := by
  intro b x r h
  obtain ⟨a, b1, h1, h⟩ := bindI h
  obtain ⟨t, b2, h2, h⟩ := bindI h
  obtain ⟨s, b3, h3, h⟩ := bindI h
  obtain ⟨p, b4, h4, h⟩ := bindI h
  obtain ⟨rfl, rfl⟩ := pureI h
  obtain ⟨y1, e1, rfl⟩ := word_fore _ _ _ _ h1
  obtain ⟨y2, e2, rfl⟩ := word_fore _ _ _ _ h2
  obtain ⟨y3, e3, rfl⟩ := text_fore _ _ _ h3
  obtain ⟨y4, e4, rfl⟩ := tail_fore _ _ _ _ h4
  exact ⟨y1 ++ (y2 ++ (y3 ++ y4)), both_mk e1 (both_mk e2 (both_mk e3 e4)), by simp [List.append_assoc]⟩
theorem fltT_fore {c : Nat} {t b : B} {f : Flt} {r : B} (h : fltTR c t b = .ok (f, r)) : f.code = c ∧ f.text = t ∧ ∃ y, fltTW f = .ok y ∧ y ++ r = b := by
  unfold fltTR at h
  unfold fltTW
  by_cases c1 : c = 4096
  · rw [if_pos c1] at h
    obtain ⟨l, b1, h1, h⟩ := bindI h
    obtain ⟨n, b2, h2, h⟩ := bindI h
    obtain ⟨q, b3, h3, h⟩ := bindI h
    obtain ⟨rfl, rfl⟩ := pureI h
    obtain ⟨y1, e1, rfl⟩ := cons_fore _ _ _ h1
    obtain ⟨y2, e2, rfl⟩ := num4_fore _ _ _ h2
    obtain ⟨y3, e3, rfl⟩ := num4_fore _ _ _ h3
    exact ⟨rfl, rfl, _, (if_pos c1).trans (both_mk e1 (both_mk e2 e3)), by simp [List.append_assoc]⟩
  rw [if_neg c1] at h
  by_cases c2 : c = 4352
  · rw [if_pos c2] at h
    obtain ⟨l, b1, h1, h⟩ := bindI h
    obtain ⟨q, b3, h3, h⟩ := bindI h
    obtain ⟨n, b2, h2, h⟩ := bindI h
    obtain ⟨w, b4, h4, h⟩ := bindI h
    obtain ⟨rfl, rfl⟩ := pureI h
    obtain ⟨y1, e1, rfl⟩ := cons_fore _ _ _ h1
    obtain ⟨y3, e3, rfl⟩ := num4_fore _ _ _ h3
    obtain ⟨y2, e2, rfl⟩ := num4_fore _ _ _ h2
    obtain ⟨y4, e4, rfl⟩ := text_fore _ _ _ h4
    exact ⟨rfl, rfl, _, (if_neg c1).trans ((if_pos c2).trans (both_mk e1 (both_mk e3 (both_mk e2 e4)))), by simp [List.append_assoc]⟩
  rw [if_neg c2] at h
  by_cases c3 : c = 4608
  · rw [if_pos c3] at h
    obtain ⟨l, b1, h1, h⟩ := bindI h
    obtain ⟨q, b3, h3, h⟩ := bindI h
    obtain ⟨n, b2, h2, h⟩ := bindI h
    obtain ⟨d, b4, h4, h⟩ := bindI h
    obtain ⟨rfl, rfl⟩ := pureI h
    obtain ⟨y1, e1, rfl⟩ := cons_fore _ _ _ h1
    obtain ⟨y3, e3, rfl⟩ := num4_fore _ _ _ h3
    obtain ⟨y2, e2, rfl⟩ := num4_fore _ _ _ h2
    obtain ⟨y4, e4, rfl⟩ := getN_foreW _ _ _ h4
    exact ⟨rfl, rfl, _, (if_neg c1).trans ((if_neg c2).trans ((if_pos c3).trans (both_mk e1 (both_mk e3 (both_mk e2 e4))))), by simp [List.append_assoc]⟩
  rw [if_neg c3] at h
  by_cases c4 : c = 4864
  · rw [if_pos c4] at h
    obtain ⟨l, b1, h1, h⟩ := bindI h
    obtain ⟨q, b3, h3, h⟩ := bindI h
    obtain ⟨n, b2, h2, h⟩ := bindI h
    obtain ⟨fl, b5, h5, h⟩ := bindI h
    obtain ⟨d, b4, h4, h⟩ := bindI h
    obtain ⟨rfl, rfl⟩ := pureI h
    obtain ⟨y1, e1, rfl⟩ := cons_fore _ _ _ h1
    obtain ⟨y3, e3, rfl⟩ := num4_fore _ _ _ h3
    obtain ⟨y2, e2, rfl⟩ := num4_fore _ _ _ h2
    obtain ⟨y5, e5, rfl⟩ := num4_fore _ _ _ h5
    obtain ⟨y4, e4, rfl⟩ := getN_foreW _ _ _ h4
    exact ⟨rfl, rfl, _, (if_neg c1).trans ((if_neg c2).trans ((if_neg c3).trans ((if_pos c4).trans (both_mk e1 (both_mk e3 (both_mk e2 (both_mk e5 e4))))))), by simp [List.append_assoc]⟩
  rw [if_neg c4] at h
  by_cases c5 : c = 5376
  · rw [if_pos c5] at h
    obtain ⟨l, b1, h1, h⟩ := bindI h
    obtain ⟨q, b3, h3, h⟩ := bindI h
    obtain ⟨n, b2, h2, h⟩ := bindI h
    obtain ⟨fl, b5, h5, h⟩ := bindI h
    obtain ⟨w, b4, h4, h⟩ := bindI h
    obtain ⟨rfl, rfl⟩ := pureI h
    obtain ⟨y1, e1, rfl⟩ := cons_fore _ _ _ h1
    obtain ⟨y3, e3, rfl⟩ := num4_fore _ _ _ h3
    obtain ⟨y2, e2, rfl⟩ := num4_fore _ _ _ h2
    obtain ⟨y5, e5, rfl⟩ := num4_fore _ _ _ h5
    obtain ⟨y4, e4, rfl⟩ := text_fore _ _ _ h4
    exact ⟨rfl, rfl, _, (if_neg c1).trans ((if_neg c2).trans ((if_neg c3).trans ((if_neg c4).trans ((if_pos c5).trans (both_mk e1 (both_mk e3 (both_mk e2 (both_mk e5 e4)))))))), by simp [List.append_assoc]⟩
  rw [if_neg c5] at h
  by_cases c6 : c = 5120
  · rw [if_pos c6] at h
    obtain ⟨s, b1, h1, h⟩ := bindI h
    obtain ⟨n, b2, h2, h⟩ := bindI h
    obtain ⟨a, b3, h3, h⟩ := bindI h
    obtain ⟨rfl, rfl⟩ := pureI h
    obtain ⟨y1, e1, rfl⟩ := text_fore _ _ _ h1
    obtain ⟨y2, e2, rfl⟩ := text_fore _ _ _ h2
    obtain ⟨y3, e3, rfl⟩ := texts_fore _ _ _ h3
    exact ⟨rfl, rfl, _, (if_neg c1).trans ((if_neg c2).trans ((if_neg c3).trans ((if_neg c4).trans ((if_neg c5).trans ((if_pos c6).trans (both_mk e1 (both_mk e2 e3))))))), by simp [List.append_assoc]⟩
  rw [if_neg c6] at h
  by_cases c7 : c = 9216
  · rw [if_pos c7] at h
    obtain ⟨s, b1, h1, h⟩ := bindI h
    obtain ⟨n, b2, h2, h⟩ := bindI h
    obtain ⟨rfl, rfl⟩ := pureI h
    obtain ⟨y1, e1, rfl⟩ := text_fore _ _ _ h1
    obtain ⟨y2, e2, rfl⟩ := text_fore _ _ _ h2
    exact ⟨rfl, rfl, _, (if_neg c1).trans ((if_neg c2).trans ((if_neg c3).trans ((if_neg c4).trans ((if_neg c5).trans ((if_neg c6).trans ((if_pos c7).trans (both_mk e1 e2))))))), by simp [List.append_assoc]⟩
  rw [if_neg c7] at h
  by_cases c8 : c = 9472
  · rw [if_pos c8] at h
    obtain ⟨s, b1, h1, h⟩ := bindI h
    obtain ⟨rfl, rfl⟩ := pureI h
    obtain ⟨y1, e1, rfl⟩ := text_fore _ _ _ h1
    exact ⟨rfl, rfl, _, (if_neg c1).trans ((if_neg c2).trans ((if_neg c3).trans ((if_neg c4).trans ((if_neg c5).trans ((if_neg c6).trans ((if_neg c7).trans ((if_pos c8).trans (e1)))))))), rfl⟩
  rw [if_neg c8] at h
  obtain ⟨rfl, rfl⟩ := pureI h
  exact ⟨rfl, rfl, [], (if_neg c1).trans ((if_neg c2).trans ((if_neg c3).trans ((if_neg c4).trans ((if_neg c5).trans ((if_neg c6).trans ((if_neg c7).trans ((if_neg c8)))))))), rfl⟩
theorem flt_fore : Fore fltW fltR := by
  intro b x r h
  obtain ⟨c, b1, h1, k1⟩ := bindI h
  obtain ⟨t, b2, h2, k2⟩ := bindI k1
  clear h k1
  obtain ⟨hc, ht, y3, e3, rfl⟩ := fltT_fore k2
  obtain ⟨y2, e2, rfl⟩ := text_fore _ _ _ h2
  obtain ⟨y1, e1, rfl⟩ := getN_foreW _ _ _ h1
  refine ⟨y1 ++ (y2 ++ y3), ?_, by simp [List.append_assoc]⟩
  unfold fltW
  rw [hc, ht]
  exact both_mk e1 (both_mk e2 e3)
theorem nte_fore : Fore nteW nteR := by
  intro b x r h
  obtain ⟨k, b1, h1, k1⟩ := bindI h
  clear h
  unfold nteW
  split at k1
  · rename_i hk
    obtain ⟨c, b2, h2, k2⟩ := bindI k1
    obtain ⟨rfl, rfl⟩ := pureI k2
    clear k1 k2
    obtain ⟨y2, e2, rfl⟩ := chg_fore _ _ _ h2
    obtain ⟨y1, e1, rfl⟩ := word_fore _ _ _ _ h1
    exact ⟨y1 ++ y2, both_mk e1 ((if_pos hk).trans (e2)), by simp [List.append_assoc]⟩
  · rename_i hk
    obtain ⟨w, b2, h2, k2⟩ := bindI k1
    obtain ⟨a, b3, h3, k3⟩ := bindI k2
    obtain ⟨rfl, rfl⟩ := pureI k3
    clear k1 k2 k3
    obtain ⟨y3, e3, rfl⟩ := inet_fore _ _ _ h3
    obtain ⟨y2, e2, rfl⟩ := word_fore _ _ _ _ h2
    obtain ⟨y1, e1, rfl⟩ := word_fore _ _ _ _ h1
    exact ⟨y1 ++ (y2 ++ y3), both_mk e1 ((if_neg hk).trans (both_mk e2 e3)), by simp [List.append_assoc]⟩
theorem resT_fore {k : Nat} {b : B} {x : Rp} {r : B} (h : resTR k b = .ok (x, r)) : x.opcode = 8 ∧ x.kind = k ∧ ∃ y, resTW x = .ok y ∧ y ++ r = b := by
  unfold resTR at h
  unfold resTW
  by_cases c1 : k = 1
  · rw [if_pos c1] at h
    obtain ⟨rfl, rfl⟩ := pureI h
    exact ⟨rfl, rfl, [], (if_pos c1), rfl⟩
  rw [if_neg c1] at h
  by_cases c2 : k = 3
  · rw [if_pos c2] at h
    obtain ⟨s, b1, h1, h⟩ := bindI h
    obtain ⟨rfl, rfl⟩ := pureI h
    obtain ⟨y1, e1, rfl⟩ := text_fore _ _ _ h1
    exact ⟨rfl, rfl, y1, (if_neg c1).trans ((if_pos c2).trans (e1)), rfl⟩
  rw [if_neg c2] at h
  by_cases c3 : k = 5
  · rw [if_pos c3] at h
    obtain ⟨s, b1, h1, h⟩ := bindI h
    obtain ⟨rfl, rfl⟩ := pureI h
    obtain ⟨y1, e1, rfl⟩ := chg_fore _ _ _ h1
    exact ⟨rfl, rfl, y1, (if_neg c1).trans ((if_neg c2).trans ((if_pos c3).trans (e1))), rfl⟩
  rw [if_neg c3] at h
  by_cases c4 : k = 4
  · rw [if_pos c4] at h
    obtain ⟨s, b1, h1, h⟩ := bindI h
    obtain ⟨rfl, rfl⟩ := pureI h
    obtain ⟨y1, e1, rfl⟩ := text_fore _ _ _ h1
    exact ⟨rfl, rfl, y1 ++ b1, (if_neg c1).trans ((if_neg c2).trans ((if_neg c3).trans ((if_pos c4).trans (both_mk e1 rfl)))), by simp⟩
  rw [if_neg c4] at h
  by_cases c5 : k = 2
  · rw [if_pos c5] at h
    obtain ⟨rfl, rfl⟩ := pureI h
    exact ⟨rfl, rfl, b, (if_neg c1).trans ((if_neg c2).trans ((if_neg c3).trans ((if_neg c4).trans ((if_pos c5))))), by simp⟩
  rw [if_neg c5] at h
  cases h
theorem parts_fore {op : Nat} {b : B} {x : Rp} {r : B} (h : partsRp op b = .ok (x, r)) : x.opcode = op ∧ ∃ y, putRp x = .ok y ∧ y ++ r = b := by
  unfold partsRp at h
  unfold putRp
  by_cases c1 : op = 0
  · rw [if_pos c1] at h
    obtain ⟨s, b1, h1, h⟩ := bindI h
    obtain ⟨rfl, rfl⟩ := pureI h
    obtain ⟨y1, e1, rfl⟩ := flt_fore _ _ _ h1
    exact ⟨rfl, y1, (if_pos c1).trans (e1), rfl⟩
  rw [if_neg c1] at h
  by_cases c2 : op = 2
  · rw [if_pos c2] at h
    obtain ⟨rfl, rfl⟩ := pureI h
    exact ⟨rfl, [], (if_neg c1).trans ((if_pos c2)), rfl⟩
  rw [if_neg c2] at h
  by_cases c3 : op = 3
  · rw [if_pos c3] at h
    obtain ⟨s, b1, h1, h⟩ := bindI h
    obtain ⟨rfl, rfl⟩ := pureI h
    obtain ⟨y1, e1, rfl⟩ := text_fore _ _ _ h1
    exact ⟨rfl, y1, (if_neg c1).trans ((if_neg c2).trans ((if_pos c3).trans (e1))), rfl⟩
  rw [if_neg c3] at h
  by_cases c4 : op = 6
  · rw [if_pos c4] at h
    obtain ⟨s, b1, h1, h⟩ := bindI h
    obtain ⟨rfl, rfl⟩ := pureI h
    obtain ⟨y1, e1, rfl⟩ := multis_fore _ _ _ h1
    exact ⟨rfl, y1, (if_neg c1).trans ((if_neg c2).trans ((if_neg c3).trans ((if_pos c4).trans (e1)))), rfl⟩
  rw [if_neg c4] at h
  by_cases c5 : op = 8
  · rw [if_pos c5] at h
    obtain ⟨k, b1, h1, k1⟩ := bindI h
    clear h
    obtain ⟨ho, hk, y2, e2, rfl⟩ := resT_fore k1
    obtain ⟨y1, e1, rfl⟩ := getN_foreW _ _ _ h1
    refine ⟨ho.trans c5.symm, y1 ++ y2, ?_, by simp [List.append_assoc]⟩
    rw [if_neg (by omega), if_neg (by omega), if_neg (by omega), if_neg (by omega), if_pos ho]
    unfold resW
    rw [hk]
    exact both_mk e1 e2
  rw [if_neg c5] at h
  by_cases c6 : op = 12
  · rw [if_pos c6] at h
    obtain ⟨s, b1, h1, h⟩ := bindI h
    obtain ⟨rfl, rfl⟩ := pureI h
    obtain ⟨y1, e1, rfl⟩ := nte_fore _ _ _ h1
    exact ⟨rfl, y1, (if_neg c1).trans ((if_neg c2).trans ((if_neg c3).trans ((if_neg c4).trans ((if_neg c5).trans ((if_pos c6).trans (e1)))))), rfl⟩
  rw [if_neg c6] at h
  by_cases c7 : op = 14 ∨ op = 16
  · rw [if_pos c7] at h
    obtain ⟨s, b1, h1, h⟩ := bindI h
    obtain ⟨rfl, rfl⟩ := pureI h
    obtain ⟨y1, e1, rfl⟩ := value_fore _ _ _ h1
    exact ⟨rfl, y1, (if_neg c1).trans ((if_neg c2).trans ((if_neg c3).trans ((if_neg c4).trans ((if_neg c5).trans ((if_neg c6).trans ((if_pos c7).trans (e1))))))), rfl⟩
  rw [if_neg c7] at h
  cases h
theorem rp_fore {op : Nat} {b : B} {x : Rp} (h : getRp op b = .ok x) : x.opcode = op ∧ putRp x = .ok b := by
  unfold getRp at h
  cases hp : partsRp op b with
  | error e => rw [hp] at h; cases h
  | ok p =>
    obtain ⟨y, r⟩ := p
    rw [hp] at h
    simp only at h
    split at h
    · rename_i hr
      injection h with h
      subst h
      obtain ⟨h1, z, h2, h3⟩ := parts_fore hp
      rw [List.eq_nil_of_length_eq_zero hr, List.append_nil] at h3
      rw [h2, h3]
      exact ⟨h1, rfl⟩
    · cases h
/-! what is got hangs on its own bytes -/
theorem lcWord (ws : List B) : Lc (wordR ws) := lcText.bind fun s => .ite (.pure _) (.err _)
theorem lcTexts : Lc getTexts := lcL lcText
theorem lcTail (t : B) : Lc (tailR t) := .ite (lcText.bind fun n => lcTexts.bind fun a => .pure _) (.ite (lcText.bind fun n => .pure _) (.pure _))
theorem lcChg : Lc chgR := (lcWord _).bind fun a => (lcWord _).bind fun t => lcText.bind fun s => (lcTail t).bind fun p => .pure _
theorem lcFltT (c : Nat) (t : B) : Lc (fltTR c t) :=
  .ite (lcCons.bind fun l => lcNum.bind fun n => lcNum.bind fun r => .pure _)
  (.ite (lcCons.bind fun l => lcNum.bind fun r => lcNum.bind fun n => lcText.bind fun w => .pure _)
  (.ite (lcCons.bind fun l => lcNum.bind fun r => lcNum.bind fun n => (lcN 1).bind fun d => .pure _)
  (.ite (lcCons.bind fun l => lcNum.bind fun r => lcNum.bind fun n => lcNum.bind fun f => (lcN 1).bind fun d => .pure _)
  (.ite (lcCons.bind fun l => lcNum.bind fun r => lcNum.bind fun n => lcNum.bind fun f => lcText.bind fun w => .pure _)
  (.ite (lcText.bind fun s => lcText.bind fun n => lcTexts.bind fun a => .pure _)
  (.ite (lcText.bind fun s => lcText.bind fun n => .pure _)
  (.ite (lcText.bind fun i => .pure _) (.pure _))))))))
theorem lcFlt : Lc fltR := (lcN 4).bind fun c => lcText.bind fun t => lcFltT c t
theorem eqInet : getInet = fun b => bindR (getN 1 b) fun n r => if n = 4 ∨ n = 16 then bindR (takeN n r) fun x r2 => bindR (getN 4 r2) fun p r3 => .ok ((⟨x, p⟩ : Adr), r3) else .error 11 := by
  funext b
  unfold getInet bindR
  cases getN 1 b with
  | error e => rfl
  | ok p =>
    obtain ⟨n, r⟩ := p
    simp only
    split
    · cases takeN n r with
      | error e => rfl
      | ok q =>
        obtain ⟨x, r2⟩ := q
        simp only
        cases getN 4 r2 <;> rfl
    · rfl
theorem lcInet : Lc getInet := by rw [eqInet]; exact (lcN 1).bind fun n => .ite ((lcTake _).bind fun x => (lcN 4).bind fun p => .pure _) (.err _)
theorem lcNte : Lc nteR := (lcWord _).bind fun k => .ite (lcChg.bind fun c => .pure _) ((lcWord _).bind fun w => lcInet.bind fun a => .pure _)
theorem lcMulti : Lc multiR := lcBoth lcText lcTexts
/-- a result whose end is its own -/
def resTC (k : Nat) (b : B) : Res Rp := if k = 2 ∨ k = 4 then .error 99 else if k = 1 then .ok ({ Rp.of 8 with kind := k }, b) else if k = 3 then bindR (getText b) fun s b => .ok ({ Rp.of 8 with kind := k, text := s }, b) else if k = 5 then bindR (chgR b) fun c b => .ok ({ Rp.of 8 with kind := k, change := c }, b) else .error 11
theorem lcResT (k : Nat) : Lc (resTC k) := .ite (.err _) (.ite (.pure _) (.ite (lcText.bind fun s => .pure _) (.ite (lcChg.bind fun c => .pure _) (.err _))))
def partsC (op : Nat) (b : B) : Res Rp :=
  if op = 0 then bindR (fltR b) fun f b => .ok ({ Rp.of op with fault := f }, b)
  else if op = 2 then .ok (Rp.of op, b)
  else if op = 3 then bindR (getText b) fun s b => .ok ({ Rp.of op with text := s }, b)
  else if op = 6 then bindR (getL multiR b) fun l b => .ok ({ Rp.of op with support := l }, b)
  else if op = 8 then bindR (getN 4 b) resTC
  else if op = 12 then bindR (nteR b) fun n b => .ok ({ Rp.of op with note := n }, b)
  else if op = 14 ∨ op = 16 then bindR (getValue b) fun v b => .ok ({ Rp.of op with token := v }, b)
  else .error 22
theorem lcPartsC (op : Nat) : Lc (partsC op) :=
  .ite (lcFlt.bind fun f => .pure _) (.ite (.pure _) (.ite (lcText.bind fun s => .pure _) (.ite ((lcL lcMulti).bind fun l => .pure _) (.ite ((lcN 4).bind fun k => lcResT k) (.ite (lcNte.bind fun n => .pure _) (.ite (lcValue.bind fun v => .pure _) (.err _)))))))
theorem resTC_eq {k : Nat} {b : B} (h : resTC k b ≠ .error 99) : resTR k b = resTC k b := by
  unfold resTC at h ⊢
  unfold resTR
  by_cases hk : k = 2 ∨ k = 4
  · rw [if_pos hk] at h; exact absurd rfl h
  · rw [if_neg hk, if_neg (show ¬ k = 4 by omega), if_neg (show ¬ k = 2 by omega)]
theorem partsC_eq {op : Nat} {b : B} (h : partsC op b ≠ .error 99) : partsRp op b = partsC op b := by
  unfold partsC at h ⊢
  unfold partsRp
  by_cases c5 : op = 8
  · subst c5
    simp only [Nat.reduceEqDiff, if_false, if_true] at h ⊢
    unfold resR
    cases hn : getN 4 b with
    | error e => rfl
    | ok p =>
      rw [hn] at h
      exact resTC_eq h
  · rw [if_neg c5, if_neg c5]
theorem partsC_of {op : Nat} {b : B} {x : Rp} {r : B} (h : partsRp op b = .ok (x, r)) (hk : ¬ (op = 8 ∧ (x.kind = 2 ∨ x.kind = 4))) : partsC op b = .ok (x, r) := by
  by_cases c5 : op = 8
  · subst c5
    unfold partsRp at h
    unfold partsC
    simp only [Nat.reduceEqDiff, if_false, if_true] at h ⊢
    obtain ⟨k, b1, h1, h2⟩ := bindI h
    obtain ⟨_, hx, _⟩ := resT_fore h2
    rw [bindR_ok h1]
    have hk2 : ¬ (k = 2 ∨ k = 4) := fun e => hk ⟨rfl, hx ▸ e⟩
    rw [← h2]
    unfold resTC resTR
    rw [if_neg hk2, if_neg (show ¬ k = 4 by omega), if_neg (show ¬ k = 2 by omega)]
  · unfold partsRp at h
    unfold partsC
    rw [if_neg c5] at h ⊢
    exact h
theorem getRp_parts {op : Nat} {b : B} {x : Rp} (h : getRp op b = .ok x) : partsRp op b = .ok (x, []) := by
  unfold getRp at h
  cases hp : partsRp op b with
  | error e => rw [hp] at h; cases h
  | ok p =>
    obtain ⟨y, r⟩ := p
    rw [hp] at h
    simp only at h
    split at h
    · rename_i hr
      injection h with h
      rw [h, List.eq_nil_of_length_eq_zero hr]
    · cases h
theorem getRp_more {op : Nat} {b : B} {x : Rp} (m : UInt8) (h : getRp op b = .ok x) (hk : ¬ (op = 8 ∧ (x.kind = 2 ∨ x.kind = 4))) : getRp op (b ++ [m]) = .error 23 := by
  obtain ⟨y, hy, h1, _⟩ := lcPartsC op _ _ _ (partsC_of (getRp_parts h) hk)
  rw [List.append_nil] at hy
  subst hy
  have h2 := h1 [m]
  have h3 := partsC_eq (op := op) (b := b ++ [m]) (by rw [h2]; simp)
  unfold getRp
  rw [h3, h2]
  simp
theorem getRp_cut {op : Nat} {b : B} {x : Rp} {k : Nat} (h : getRp op b = .ok x) (hx : ¬ (op = 8 ∧ (x.kind = 2 ∨ x.kind = 4))) (hk : k < b.length) : getRp op (b.take k) = .error 10 := by
  obtain ⟨y, hy, _, h1⟩ := lcPartsC op _ _ _ (partsC_of (getRp_parts h) hx)
  rw [List.append_nil] at hy
  subst hy
  have h2 := h1 k hk
  have h3 := partsC_eq (op := op) (b := b.take k) (by rw [h2]; simp)
  unfold getRp
  rw [h3, h2]
/-! no error is nought -/
theorem nzWord (ws : List B) : Nz (wordR ws) := nzText.bind fun s => .ite (.pure _) (.err (by decide))
theorem nzTexts : Nz getTexts := nzL nzText
theorem nzTail (t : B) : Nz (tailR t) := .ite (nzText.bind fun n => nzTexts.bind fun a => .pure _) (.ite (nzText.bind fun n => .pure _) (.pure _))
theorem nzChg : Nz chgR := (nzWord _).bind fun a => (nzWord _).bind fun t => nzText.bind fun s => (nzTail t).bind fun p => .pure _
theorem nzFltT (c : Nat) (t : B) : Nz (fltTR c t) :=
  .ite (nzCons.bind fun l => nzNum.bind fun n => nzNum.bind fun r => .pure _)
  (.ite (nzCons.bind fun l => nzNum.bind fun r => nzNum.bind fun n => nzText.bind fun w => .pure _)
  (.ite (nzCons.bind fun l => nzNum.bind fun r => nzNum.bind fun n => (nzN 1).bind fun d => .pure _)
  (.ite (nzCons.bind fun l => nzNum.bind fun r => nzNum.bind fun n => nzNum.bind fun f => (nzN 1).bind fun d => .pure _)
  (.ite (nzCons.bind fun l => nzNum.bind fun r => nzNum.bind fun n => nzNum.bind fun f => nzText.bind fun w => .pure _)
  (.ite (nzText.bind fun s => nzText.bind fun n => nzTexts.bind fun a => .pure _)
  (.ite (nzText.bind fun s => nzText.bind fun n => .pure _)
  (.ite (nzText.bind fun i => .pure _) (.pure _))))))))
theorem nzFlt : Nz fltR := (nzN 4).bind fun c => nzText.bind fun t => nzFltT c t
theorem nzInet : Nz getInet := by rw [eqInet]; exact (nzN 1).bind fun n => .ite ((nzTake _).bind fun x => (nzN 4).bind fun p => .pure _) (.err (by decide))
theorem nzNte : Nz nteR := (nzWord _).bind fun k => .ite (nzChg.bind fun c => .pure _) ((nzWord _).bind fun w => nzInet.bind fun a => .pure _)
theorem nzMulti : Nz multiR := nzBoth nzText nzTexts
theorem nzResT (k : Nat) : Nz (resTR k) := .ite (.pure _) (.ite (nzText.bind fun s => .pure _) (.ite (nzChg.bind fun c => .pure _) (.ite (nzText.bind fun i => fun b e h => by cases h) (.ite (fun b e h => by cases h) (.err (by decide))))))
theorem nzPartsRp (op : Nat) : Nz (partsRp op) :=
  .ite (nzFlt.bind fun f => .pure _) (.ite (.pure _) (.ite (nzText.bind fun s => .pure _) (.ite ((nzL nzMulti).bind fun l => .pure _) (.ite ((nzN 4).bind fun k => nzResT k) (.ite (nzNte.bind fun n => .pure _) (.ite (nzValue.bind fun v => .pure _) (.err (by decide))))))))
theorem getRp_ne {op : Nat} {b : B} {e : Int} (h : getRp op b = .error e) : e ≠ 0 := by
  unfold getRp at h
  cases hp : partsRp op b with
  | error e2 => rw [hp] at h; injection h with h; rw [← h]; exact nzPartsRp op b e2 hp
  | ok p =>
    obtain ⟨y, r⟩ := p
    rw [hp] at h
    simp only at h
    split at h
    · cases h
    · injection h with h; omega
end Sb
