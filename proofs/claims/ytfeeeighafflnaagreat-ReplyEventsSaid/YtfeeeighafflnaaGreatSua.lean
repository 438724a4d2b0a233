/- Plain mathematics of the reference's letters (layer 9): what it reads and writes is what the program does; no program in sight. Conditions: none. -/
import Derived.Test.YtfeeeighafflnaaGreatStq
set_option linter.unusedVariables false
set_option linter.unusedSimpArgs false
namespace Sb
open Go.Proofs.Sb
/-- the reference's reply -/
structure Rf where
  opcode : Nat
  code : Nat
  text : B
  level : Nat
  received : Int
  needed : Int
  failures : Int
  data : Nat
  write : B
  space : B
  name : B
  args : List B
  ident : B
  support : List (B × List B)
  token : Val
  event : B
  what : B
  addr : Adr
  change : Chg
  kind : Nat
  rest : B
def Rf.none : Rf := ⟨0, 0, [], 0, 0, 0, 0, 0, [], [], [], [], [], [], Val.none, [], [], Adr.none, Chg.none, 0, []⟩
def Rf.of (op : Nat) : Rf := { Rf.none with opcode := op }
/-- the reference's reply of a reply -/
def rfOf (x : Rp) : Rf :=
  ⟨x.opcode, x.fault.code, if x.opcode = 0 then x.fault.text else x.text, x.fault.level, x.fault.received, x.fault.needed, x.fault.failures, x.fault.data, x.fault.write, x.fault.space, x.fault.name, x.fault.args, if x.opcode = 0 then x.fault.ident else x.ident, x.support, x.token, x.note.kind, x.note.what, x.note.addr, if x.opcode = 12 then x.note.schema else x.change, x.kind, x.rest⟩
/-! letters -/
def fpL (c : Nat) : B :=
  if c = 4096 then [108, 110, 114] else if c = 4352 then [108, 114, 110, 119] else if c = 4608 then [108, 114, 110, 100] else if c = 4864 then [108, 114, 110, 102, 100] else if c = 5376 then [108, 114, 110, 102, 119] else if c = 5120 then [115, 101, 97] else if c = 9216 then [115, 101] else if c = 9472 then [105] else []
def firstL (op : Nat) : Option B :=
  if op = 0 then some [99, 116] else if op = 2 then some [] else if op = 3 then some [116] else if op = 6 then some [109] else if op = 8 then some [107] else if op = 12 then some [69] else if op = 14 ∨ op = 16 then some [118] else none
def boolL (b : Bool) : Option B := if b then some [] else none
def wdsF : List B := [wFunction, wAggregate]
def thenL (l : Nat) (r : Rf) : Option B :=
  if l = 116 then (if r.opcode = 0 then some (fpL r.code) else some [])
  else if l = 107 then (if r.kind = 1 then some [] else if r.kind = 2 then some [82] else if r.kind = 3 then some [116] else if r.kind = 4 then some [105, 82] else if r.kind = 5 then some [87, 84, 83, 88] else none)
  else if l = 69 then (if r.event = wTopology ∨ r.event = wStatus then some [72, 65] else if r.event = wSchema then some [87, 84, 83, 88] else none)
  else if l = 72 then (if r.event = wStatus then boolL (decide (r.what ∈ wdsU)) else boolL (decide (r.what ∈ wdsN)))
  else if l = 87 then boolL (decide (r.change.what ∈ wdsW))
  else if l = 84 then boolL (decide (r.change.target ∈ wdsT))
  else if l = 88 then (if r.change.target ∈ wdsF then some [78, 71] else if r.change.target ≠ wKeyspace then some [78] else some [])
  else some []
def readL (l : Nat) (r : Rf) (b : B) : Res Rf :=
  if l = 99 then bindR (getN 4 b) fun x b => .ok ({ r with code := x }, b)
  else if l = 107 then bindR (getN 4 b) fun x b => .ok ({ r with kind := x }, b)
  else if l = 116 then bindR (getText b) fun x b => .ok ({ r with text := x }, b)
  else if l = 108 then bindR (getCons b) fun x b => .ok ({ r with level := x }, b)
  else if l = 114 then bindR (getNum b) fun x b => .ok ({ r with received := x }, b)
  else if l = 110 then bindR (getNum b) fun x b => .ok ({ r with needed := x }, b)
  else if l = 102 then bindR (getNum b) fun x b => .ok ({ r with failures := x }, b)
  else if l = 100 then bindR (getN 1 b) fun x b => .ok ({ r with data := x }, b)
  else if l = 119 then bindR (getText b) fun x b => .ok ({ r with write := x }, b)
  else if l = 115 then bindR (getText b) fun x b => .ok ({ r with space := x }, b)
  else if l = 101 then bindR (getText b) fun x b => .ok ({ r with name := x }, b)
  else if l = 97 then bindR (getTexts b) fun x b => .ok ({ r with args := x }, b)
  else if l = 105 then bindR (getText b) fun x b => .ok ({ r with ident := x }, b)
  else if l = 109 then bindR (getL multiR b) fun x b => .ok ({ r with support := x }, b)
  else if l = 118 then bindR (getValue b) fun x b => .ok ({ r with token := x }, b)
  else if l = 69 then bindR (getText b) fun x b => .ok ({ r with event := x }, b)
  else if l = 72 then bindR (getText b) fun x b => .ok ({ r with what := x }, b)
  else if l = 65 then bindR (getInet b) fun x b => .ok ({ r with addr := x }, b)
  else if l = 82 then .ok ({ r with rest := b }, [])
  else if l = 87 then bindR (getText b) fun x b => .ok ({ r with change := { r.change with what := x } }, b)
  else if l = 84 then bindR (getText b) fun x b => .ok ({ r with change := { r.change with target := x } }, b)
  else if l = 83 then bindR (getText b) fun x b => .ok ({ r with change := { r.change with space := x } }, b)
  else if l = 78 then bindR (getText b) fun x b => .ok ({ r with change := { r.change with name := x } }, b)
  else if l = 71 then bindR (getTexts b) fun x b => .ok ({ r with change := { r.change with args := x } }, b)
  else .ok (r, b)
def writeL (l : Nat) (r : Rf) : Wr :=
  if l = 99 then .ok (enc 4 r.code)
  else if l = 107 then .ok (enc 4 r.kind)
  else if l = 116 then text r.text
  else if l = 108 then cons r.level
  else if l = 114 then num4W r.received
  else if l = 110 then num4W r.needed
  else if l = 102 then num4W r.failures
  else if l = 100 then .ok (enc 1 r.data)
  else if l = 119 then text r.write
  else if l = 115 then text r.space
  else if l = 101 then text r.name
  else if l = 97 then texts r.args
  else if l = 105 then text r.ident
  else if l = 109 then putL multiW r.support
  else if l = 118 then value r.token
  else if l = 69 then text r.event
  else if l = 72 then text r.what
  else if l = 65 then inet r.addr
  else if l = 82 then .ok r.rest
  else if l = 87 then text r.change.what
  else if l = 84 then text r.change.target
  else if l = 83 then text r.change.space
  else if l = 78 then text r.change.name
  else if l = 71 then texts r.change.args
  else .ok []
def bindX {α β : Type} (r : Res α) (f : α → B → Except Int β) : Except Int β := match r with | .error e => .error e | .ok (x, b) => f x b
def thenX {β : Type} (o : Option B) (f : B → Except Int β) : Except Int β := match o with | Option.none => .error 11 | some m => f m
def runRf : Nat → B → Rf → B → Except Int Rf
  | _, [], r, b => if b.length = 0 then .ok r else .error 23
  | 0, _ :: _, _, _ => .error 0
  | n + 1, c :: ls, r, b => bindX (readL c.toNat r b) fun r' b' => thenX (thenL c.toNat r') fun m => runRf n (m ++ ls) r' b'
def getRf (op : Nat) (b : B) : Except Int Rf := match firstL op with | Option.none => .error 22 | some ls => runRf 9 ls (Rf.of op) b
def wrRf : Nat → B → Rf → Wr
  | _, [], _ => .ok []
  | 0, _ :: _, _ => .error 0
  | n + 1, c :: ls, r => thenX (thenL c.toNat r) fun m => bothW (writeL c.toNat r) (wrRf n (m ++ ls) r)
def putRf (r : Rf) : Wr := match firstL r.opcode with | Option.none => .error 22 | some ls => wrRf 9 ls r
/-! the same -/
theorem bindX_ok {α β : Type} (x : α) (b : B) (f : α → B → Except Int β) : bindX (.ok (x, b)) f = f x b := rfl
theorem bindX_err {α β : Type} (e : Int) (f : α → B → Except Int β) : bindX (.error e) f = .error e := rfl
theorem bindX_bind {α β γ : Type} (r : Res α) (g : α → B → Res β) (f : β → B → Except Int γ) : bindX (bindR r g) f = bindX r fun x b => bindX (g x b) f := by cases r <;> rfl
theorem bindX_same {α β : Type} {r : Res α} {f g : α → B → Except Int β} (h : ∀ x b, f x b = g x b) : bindX r f = bindX r g := by cases r with | error e => rfl | ok p => exact h p.1 p.2
theorem thenX_some {β : Type} (m : B) (f : B → Except Int β) : thenX (some m) f = f m := rfl
theorem thenX_none {β : Type} (f : B → Except Int β) : thenX Option.none f = .error 11 := rfl
/-- what is got, turned -/
def emap (r : Except Int Rp) : Except Int Rf := match r with | .ok x => .ok (rfOf x) | .error e => .error e
def endX (x : Rp) (b : B) : Except Int Rf := if b.length = 0 then .ok (rfOf x) else .error 23
theorem emap_get (op : Nat) (b : B) : emap (getRp op b) = bindX (partsRp op b) endX := by
  unfold getRp
  cases partsRp op b with
  | error e => rfl
  | ok p =>
    show emap (if p.2.length = 0 then .ok p.1 else .error 23) = endX p.1 p.2
    unfold endX
    split <;> rfl
theorem run_nil (n : Nat) (r : Rf) (b : B) : runRf n [] r b = if b.length = 0 then .ok r else .error 23 := by cases n <;> rfl
theorem wr_nil (n : Nat) (r : Rf) : wrRf n [] r = .ok [] := by cases n <;> rfl
theorem run_cons (n : Nat) (c : UInt8) (ls : B) (r : Rf) (b : B) : runRf (n + 1) (c :: ls) r b = bindX (readL c.toNat r b) fun r' b' => thenX (thenL c.toNat r') fun m => runRf n (m ++ ls) r' b' := rfl
theorem run_end {x : Rp} {n : Nat} {r : Rf} {b : B} (h : r = rfOf x) : runRf n [] r b = endX x b := by rw [run_nil, h]; rfl
end Sb

/- Plain mathematics of the reference's letters (layer 9): what they read and write is what the program does; no program in sight. Conditions: none. (written by gen_sub.py) -/
namespace Sb
open Go.Proofs.Sb
section
variable {n : Nat} {ls : B} {r : Rf} {b : B}
theorem run_c' : runRf (n + 1) (99 :: ls) r b = bindX (getN 4 b) fun x b => runRf n ls { r with code := x } b := by rw [run_cons]; exact bindX_bind _ _ _
theorem wr_c' : wrRf (n + 1) (99 :: ls) r = bothW (.ok (enc 4 r.code)) (wrRf n ls r) := rfl
theorem run_k' : runRf (n + 1) (107 :: ls) r b = bindX (getN 4 b) fun x b => thenX (thenL 107 { r with kind := x }) fun m => runRf n (m ++ ls) { r with kind := x } b := by rw [run_cons]; exact bindX_bind _ _ _
theorem wr_k' : wrRf (n + 1) (107 :: ls) r = thenX (thenL 107 r) fun m => bothW (.ok (enc 4 r.kind)) (wrRf n (m ++ ls) r) := rfl
theorem run_t' : runRf (n + 1) (116 :: ls) r b = bindX (getText b) fun x b => thenX (thenL 116 { r with text := x }) fun m => runRf n (m ++ ls) { r with text := x } b := by rw [run_cons]; exact bindX_bind _ _ _
theorem wr_t' : wrRf (n + 1) (116 :: ls) r = thenX (thenL 116 r) fun m => bothW (text r.text) (wrRf n (m ++ ls) r) := rfl
theorem run_l' : runRf (n + 1) (108 :: ls) r b = bindX (getCons b) fun x b => runRf n ls { r with level := x } b := by rw [run_cons]; exact bindX_bind _ _ _
theorem wr_l' : wrRf (n + 1) (108 :: ls) r = bothW (cons r.level) (wrRf n ls r) := rfl
theorem run_r' : runRf (n + 1) (114 :: ls) r b = bindX (getNum b) fun x b => runRf n ls { r with received := x } b := by rw [run_cons]; exact bindX_bind _ _ _
theorem wr_r' : wrRf (n + 1) (114 :: ls) r = bothW (num4W r.received) (wrRf n ls r) := rfl
theorem run_n' : runRf (n + 1) (110 :: ls) r b = bindX (getNum b) fun x b => runRf n ls { r with needed := x } b := by rw [run_cons]; exact bindX_bind _ _ _
theorem wr_n' : wrRf (n + 1) (110 :: ls) r = bothW (num4W r.needed) (wrRf n ls r) := rfl
theorem run_f' : runRf (n + 1) (102 :: ls) r b = bindX (getNum b) fun x b => runRf n ls { r with failures := x } b := by rw [run_cons]; exact bindX_bind _ _ _
theorem wr_f' : wrRf (n + 1) (102 :: ls) r = bothW (num4W r.failures) (wrRf n ls r) := rfl
theorem run_d' : runRf (n + 1) (100 :: ls) r b = bindX (getN 1 b) fun x b => runRf n ls { r with data := x } b := by rw [run_cons]; exact bindX_bind _ _ _
theorem wr_d' : wrRf (n + 1) (100 :: ls) r = bothW (.ok (enc 1 r.data)) (wrRf n ls r) := rfl
theorem run_w' : runRf (n + 1) (119 :: ls) r b = bindX (getText b) fun x b => runRf n ls { r with write := x } b := by rw [run_cons]; exact bindX_bind _ _ _
theorem wr_w' : wrRf (n + 1) (119 :: ls) r = bothW (text r.write) (wrRf n ls r) := rfl
theorem run_s' : runRf (n + 1) (115 :: ls) r b = bindX (getText b) fun x b => runRf n ls { r with space := x } b := by rw [run_cons]; exact bindX_bind _ _ _
theorem wr_s' : wrRf (n + 1) (115 :: ls) r = bothW (text r.space) (wrRf n ls r) := rfl
theorem run_e' : runRf (n + 1) (101 :: ls) r b = bindX (getText b) fun x b => runRf n ls { r with name := x } b := by rw [run_cons]; exact bindX_bind _ _ _
theorem wr_e' : wrRf (n + 1) (101 :: ls) r = bothW (text r.name) (wrRf n ls r) := rfl
theorem run_a' : runRf (n + 1) (97 :: ls) r b = bindX (getTexts b) fun x b => runRf n ls { r with args := x } b := by rw [run_cons]; exact bindX_bind _ _ _
theorem wr_a' : wrRf (n + 1) (97 :: ls) r = bothW (texts r.args) (wrRf n ls r) := rfl
theorem run_i' : runRf (n + 1) (105 :: ls) r b = bindX (getText b) fun x b => runRf n ls { r with ident := x } b := by rw [run_cons]; exact bindX_bind _ _ _
theorem wr_i' : wrRf (n + 1) (105 :: ls) r = bothW (text r.ident) (wrRf n ls r) := rfl
theorem run_m' : runRf (n + 1) (109 :: ls) r b = bindX (getL multiR b) fun x b => runRf n ls { r with support := x } b := by rw [run_cons]; exact bindX_bind _ _ _
theorem wr_m' : wrRf (n + 1) (109 :: ls) r = bothW (putL multiW r.support) (wrRf n ls r) := rfl
theorem run_v' : runRf (n + 1) (118 :: ls) r b = bindX (getValue b) fun x b => runRf n ls { r with token := x } b := by rw [run_cons]; exact bindX_bind _ _ _
theorem wr_v' : wrRf (n + 1) (118 :: ls) r = bothW (value r.token) (wrRf n ls r) := rfl
theorem run_E' : runRf (n + 1) (69 :: ls) r b = bindX (getText b) fun x b => thenX (thenL 69 { r with event := x }) fun m => runRf n (m ++ ls) { r with event := x } b := by rw [run_cons]; exact bindX_bind _ _ _
theorem wr_E' : wrRf (n + 1) (69 :: ls) r = thenX (thenL 69 r) fun m => bothW (text r.event) (wrRf n (m ++ ls) r) := rfl
theorem run_H' : runRf (n + 1) (72 :: ls) r b = bindX (getText b) fun x b => thenX (thenL 72 { r with what := x }) fun m => runRf n (m ++ ls) { r with what := x } b := by rw [run_cons]; exact bindX_bind _ _ _
theorem wr_H' : wrRf (n + 1) (72 :: ls) r = thenX (thenL 72 r) fun m => bothW (text r.what) (wrRf n (m ++ ls) r) := rfl
theorem run_A' : runRf (n + 1) (65 :: ls) r b = bindX (getInet b) fun x b => runRf n ls { r with addr := x } b := by rw [run_cons]; exact bindX_bind _ _ _
theorem wr_A' : wrRf (n + 1) (65 :: ls) r = bothW (inet r.addr) (wrRf n ls r) := rfl
theorem run_W' : runRf (n + 1) (87 :: ls) r b = bindX (getText b) fun x b => thenX (thenL 87 { r with change := { r.change with what := x } }) fun m => runRf n (m ++ ls) { r with change := { r.change with what := x } } b := by rw [run_cons]; exact bindX_bind _ _ _
theorem wr_W' : wrRf (n + 1) (87 :: ls) r = thenX (thenL 87 r) fun m => bothW (text r.change.what) (wrRf n (m ++ ls) r) := rfl
theorem run_T' : runRf (n + 1) (84 :: ls) r b = bindX (getText b) fun x b => thenX (thenL 84 { r with change := { r.change with target := x } }) fun m => runRf n (m ++ ls) { r with change := { r.change with target := x } } b := by rw [run_cons]; exact bindX_bind _ _ _
theorem wr_T' : wrRf (n + 1) (84 :: ls) r = thenX (thenL 84 r) fun m => bothW (text r.change.target) (wrRf n (m ++ ls) r) := rfl
theorem run_S' : runRf (n + 1) (83 :: ls) r b = bindX (getText b) fun x b => runRf n ls { r with change := { r.change with space := x } } b := by rw [run_cons]; exact bindX_bind _ _ _
theorem wr_S' : wrRf (n + 1) (83 :: ls) r = bothW (text r.change.space) (wrRf n ls r) := rfl
theorem run_N' : runRf (n + 1) (78 :: ls) r b = bindX (getText b) fun x b => runRf n ls { r with change := { r.change with name := x } } b := by rw [run_cons]; exact bindX_bind _ _ _
theorem wr_N' : wrRf (n + 1) (78 :: ls) r = bothW (text r.change.name) (wrRf n ls r) := rfl
theorem run_G' : runRf (n + 1) (71 :: ls) r b = bindX (getTexts b) fun x b => runRf n ls { r with change := { r.change with args := x } } b := by rw [run_cons]; exact bindX_bind _ _ _
theorem wr_G' : wrRf (n + 1) (71 :: ls) r = bothW (texts r.change.args) (wrRf n ls r) := rfl
theorem run_R' : runRf (n + 1) (82 :: ls) r b = runRf n ls { r with rest := b } [] := rfl
theorem wr_R' : wrRf (n + 1) (82 :: ls) r = bothW (.ok r.rest) (wrRf n ls r) := rfl
theorem run_X' : runRf (n + 1) (88 :: ls) r b = thenX (thenL 88 r) fun m => runRf n (m ++ ls) r b := rfl
theorem wr_X' : wrRf (n + 1) (88 :: ls) r = thenX (thenL 88 r) fun m => bothW (.ok []) (wrRf n (m ++ ls) r) := rfl
theorem thenX_bool {β : Type} {p : Prop} [Decidable p] (f : B → Except Int β) : thenX (boolL (decide p)) f = if p then f [] else .error 11 := by by_cases h : p <;> simp [boolL, thenX, h]
theorem bindX_word {β : Type} (ws : List B) (b : B) (f : B → B → Except Int β) : bindX (wordR ws b) f = bindX (getText b) fun x b => if x ∈ ws then f x b else .error 11 := by
  unfold wordR
  rw [bindX_bind]
  refine bindX_same fun x b => ?_
  split <;> rfl
theorem nil_both (r : Wr) : bothW (.ok []) r = r := by cases r <;> rfl
theorem mem_F {x : B} : x ∈ wdsF ↔ x = wFunction ∨ x = wAggregate := by simp [wdsF]
theorem mem_T {x : B} : x ∈ wdsT ↔ x = wKeyspace ∨ x = wTable ∨ x = wType ∨ x = wFunction ∨ x = wAggregate := by simp [wdsT]
theorem mem_E {x : B} : x ∈ wdsE ↔ x = wTopology ∨ x = wStatus ∨ x = wSchema := by simp [wdsE]
theorem key_ne {x : B} (h : x = wTable ∨ x = wType) : x ≠ wKeyspace := by rcases h with rfl | rfl <;> decide
theorem key_of {x : B} (h : x ∈ wdsT) (h1 : ¬ (x = wFunction ∨ x = wAggregate)) (h2 : ¬ (x = wTable ∨ x = wType)) : x = wKeyspace := by
  rcases mem_T.1 h with h | h | h | h | h
  · exact h
  · exact absurd (.inl h) h2
  · exact absurd (.inr h) h2
  · exact absurd (.inl h) h1
  · exact absurd (.inr h) h1
theorem then_X (r : Rf) : thenL 88 r = if r.change.target ∈ wdsF then some [78, 71] else if r.change.target ≠ wKeyspace then some [78] else some [] := rfl
theorem then_T (r : Rf) : thenL 84 r = boolL (decide (r.change.target ∈ wdsT)) := rfl
theorem then_W (r : Rf) : thenL 87 r = boolL (decide (r.change.what ∈ wdsW)) := rfl
theorem then_t (r : Rf) : thenL 116 r = if r.opcode = 0 then some (fpL r.code) else some [] := rfl
theorem then_k (r : Rf) : thenL 107 r = if r.kind = 1 then some [] else if r.kind = 2 then some [82] else if r.kind = 3 then some [116] else if r.kind = 4 then some [105, 82] else if r.kind = 5 then some [87, 84, 83, 88] else none := rfl
theorem then_E (r : Rf) : thenL 69 r = if r.event = wTopology ∨ r.event = wStatus then some [72, 65] else if r.event = wSchema then some [87, 84, 83, 88] else none := rfl
theorem then_H (r : Rf) : thenL 72 r = if r.event = wStatus then boolL (decide (r.what ∈ wdsU)) else boolL (decide (r.what ∈ wdsN)) := rfl
theorem run_chg (hr : r.change = Chg.none) : runRf (n + 6) [87, 84, 83, 88] r b = bindX (chgR b) fun c b => runRf (n + 6) [] { r with change := c } b := by
  unfold chgR
  rw [run_W', bindX_bind, bindX_word]
  refine bindX_same fun a b => ?_
  simp only [then_W, thenX_bool, List.nil_append]
  split
  case isFalse => rfl
  rename_i ha
  rw [run_T', bindX_bind, bindX_word]
  refine bindX_same fun tg b => ?_
  simp only [then_T, thenX_bool, List.nil_append]
  split
  case isFalse => rfl
  rename_i htg
  rw [run_S', bindX_bind]
  refine bindX_same fun s b => ?_
  rw [bindX_bind, run_X', then_X]
  simp only [mem_F]
  unfold tailR
  by_cases hf : tg = wFunction ∨ tg = wAggregate
  · rw [if_pos hf, if_pos hf, thenX_some]
    show runRf (n + 2) [78, 71] _ b = _
    rw [run_N', bindX_bind]
    refine bindX_same fun nm b => ?_
    rw [run_G', bindX_bind]
    refine bindX_same fun ar b => ?_
    rw [run_nil, bindX_ok, bindX_ok, run_nil]
  · rw [if_neg hf, if_neg hf]
    by_cases ht : tg = wTable ∨ tg = wType
    · rw [if_pos (key_ne ht), if_pos ht, thenX_some]
      show runRf (n + 2) [78] _ b = _
      rw [run_N', bindX_bind]
      refine bindX_same fun nm b => ?_
      rw [run_nil, bindX_ok, bindX_ok, run_nil]
      rw [show r.change.args = [] by rw [hr]; rfl]
    · rw [if_neg (fun h => h (key_of htg hf ht)), if_neg ht, thenX_some]
      show runRf (n + 2) [] _ b = _
      rw [run_nil, bindX_ok, bindX_ok, run_nil]
      rw [show r.change.args = [] by rw [hr]; rfl, show r.change.name = [] by rw [hr]; rfl]
theorem thenX_ite {β : Type} {p : Prop} [Decidable p] (a b : Option B) (f : B → Except Int β) : thenX (if p then a else b) f = if p then thenX a f else thenX b f := by split <;> rfl
theorem wr_chg : wrRf (n + 6) [87, 84, 83, 88] r = chgW r.change := by
  unfold chgW wordW
  rw [wr_W', then_W, thenX_bool]
  split
  case isFalse => rfl
  rename_i ha
  refine congrArg _ ?_
  show wrRf (n + 5) [84, 83, 88] r = _
  rw [wr_T', then_T, thenX_bool]
  split
  case isFalse => rfl
  rename_i htg
  refine congrArg _ ?_
  show wrRf (n + 4) [83, 88] r = _
  rw [wr_S']
  refine congrArg _ ?_
  rw [wr_X', then_X]
  simp only [mem_F]
  unfold tailW
  by_cases hf : r.change.target = wFunction ∨ r.change.target = wAggregate
  · rw [if_pos hf, if_pos hf, thenX_some, nil_both]
    show wrRf (n + 2) [78, 71] r = _
    rw [wr_N', wr_G', wr_nil, bothS_nil]
  · rw [if_neg hf, if_neg hf]
    by_cases ht : r.change.target = wTable ∨ r.change.target = wType
    · rw [if_pos (key_ne ht), if_pos ht, thenX_some, nil_both]
      show wrRf (n + 2) [78] r = _
      rw [wr_N', wr_nil, bothS_nil]
    · rw [if_neg (fun h => h (key_of htg hf ht)), if_neg ht, thenX_some, nil_both]
      exact wr_nil _ _
end
set_option maxHeartbeats 8000000 in
theorem rf_flt {c : Nat} {t b : B} : runRf 7 (fpL c) { Rf.of 0 with code := c, text := t } b = bindX (fltTR c t b) fun f b => endX { Rp.of 0 with fault := f } b := by
  unfold fpL fltTR
  by_cases c4096 : c = 4096
  · subst c4096
    rw [if_pos rfl, if_pos rfl]
    rw [run_l', bindX_bind]
    refine bindX_same fun xl b => ?_
    rw [run_n', bindX_bind]
    refine bindX_same fun xn b => ?_
    rw [run_r', bindX_bind]
    refine bindX_same fun xr b => ?_
    exact run_end rfl
  rw [if_neg c4096, if_neg c4096]
  by_cases c4352 : c = 4352
  · subst c4352
    rw [if_pos rfl, if_pos rfl]
    rw [run_l', bindX_bind]
    refine bindX_same fun xl b => ?_
    rw [run_r', bindX_bind]
    refine bindX_same fun xr b => ?_
    rw [run_n', bindX_bind]
    refine bindX_same fun xn b => ?_
    rw [run_w', bindX_bind]
    refine bindX_same fun xw b => ?_
    exact run_end rfl
  rw [if_neg c4352, if_neg c4352]
  by_cases c4608 : c = 4608
  · subst c4608
    rw [if_pos rfl, if_pos rfl]
    rw [run_l', bindX_bind]
    refine bindX_same fun xl b => ?_
    rw [run_r', bindX_bind]
    refine bindX_same fun xr b => ?_
    rw [run_n', bindX_bind]
    refine bindX_same fun xn b => ?_
    rw [run_d', bindX_bind]
    refine bindX_same fun xd b => ?_
    exact run_end rfl
  rw [if_neg c4608, if_neg c4608]
  by_cases c4864 : c = 4864
  · subst c4864
    rw [if_pos rfl, if_pos rfl]
    rw [run_l', bindX_bind]
    refine bindX_same fun xl b => ?_
    rw [run_r', bindX_bind]
    refine bindX_same fun xr b => ?_
    rw [run_n', bindX_bind]
    refine bindX_same fun xn b => ?_
    rw [run_f', bindX_bind]
    refine bindX_same fun xf b => ?_
    rw [run_d', bindX_bind]
    refine bindX_same fun xd b => ?_
    exact run_end rfl
  rw [if_neg c4864, if_neg c4864]
  by_cases c5376 : c = 5376
  · subst c5376
    rw [if_pos rfl, if_pos rfl]
    rw [run_l', bindX_bind]
    refine bindX_same fun xl b => ?_
    rw [run_r', bindX_bind]
    refine bindX_same fun xr b => ?_
    rw [run_n', bindX_bind]
    refine bindX_same fun xn b => ?_
    rw [run_f', bindX_bind]
    refine bindX_same fun xf b => ?_
    rw [run_w', bindX_bind]
    refine bindX_same fun xw b => ?_
    exact run_end rfl
  rw [if_neg c5376, if_neg c5376]
  by_cases c5120 : c = 5120
  · subst c5120
    rw [if_pos rfl, if_pos rfl]
    rw [run_s', bindX_bind]
    refine bindX_same fun xs b => ?_
    rw [run_e', bindX_bind]
    refine bindX_same fun xe b => ?_
    rw [run_a', bindX_bind]
    refine bindX_same fun xa b => ?_
    exact run_end rfl
  rw [if_neg c5120, if_neg c5120]
  by_cases c9216 : c = 9216
  · subst c9216
    rw [if_pos rfl, if_pos rfl]
    rw [run_s', bindX_bind]
    refine bindX_same fun xs b => ?_
    rw [run_e', bindX_bind]
    refine bindX_same fun xe b => ?_
    exact run_end rfl
  rw [if_neg c9216, if_neg c9216]
  by_cases c9472 : c = 9472
  · subst c9472
    rw [if_pos rfl, if_pos rfl]
    rw [run_i', bindX_bind]
    refine bindX_same fun xi b => ?_
    exact run_end rfl
  rw [if_neg c9472, if_neg c9472]
  exact run_end rfl
set_option maxHeartbeats 8000000 in
theorem wrf_flt {x : Rp} (h : x.opcode = 0) : wrRf 7 (fpL x.fault.code) (rfOf x) = fltTW x.fault := by
  unfold fpL fltTW cntsW
  by_cases c4096 : x.fault.code = 4096
  · rw [if_pos c4096, if_pos c4096]
    rw [wr_l', wr_n', wr_r', wr_nil, bothS_nil]
    rfl
  rw [if_neg c4096, if_neg c4096]
  by_cases c4352 : x.fault.code = 4352
  · rw [if_pos c4352, if_pos c4352]
    rw [wr_l', wr_r', wr_n', wr_w', wr_nil, bothS_nil]
    rfl
  rw [if_neg c4352, if_neg c4352]
  by_cases c4608 : x.fault.code = 4608
  · rw [if_pos c4608, if_pos c4608]
    rw [wr_l', wr_r', wr_n', wr_d', wr_nil, bothS_nil]
    rfl
  rw [if_neg c4608, if_neg c4608]
  by_cases c4864 : x.fault.code = 4864
  · rw [if_pos c4864, if_pos c4864]
    rw [wr_l', wr_r', wr_n', wr_f', wr_d', wr_nil, bothS_nil]
    rfl
  rw [if_neg c4864, if_neg c4864]
  by_cases c5376 : x.fault.code = 5376
  · rw [if_pos c5376, if_pos c5376]
    rw [wr_l', wr_r', wr_n', wr_f', wr_w', wr_nil, bothS_nil]
    rfl
  rw [if_neg c5376, if_neg c5376]
  by_cases c5120 : x.fault.code = 5120
  · rw [if_pos c5120, if_pos c5120]
    rw [wr_s', wr_e', wr_a', wr_nil, bothS_nil]
    rfl
  rw [if_neg c5120, if_neg c5120]
  by_cases c9216 : x.fault.code = 9216
  · rw [if_pos c9216, if_pos c9216]
    rw [wr_s', wr_e', wr_nil, bothS_nil]
    rfl
  rw [if_neg c9216, if_neg c9216]
  by_cases c9472 : x.fault.code = 9472
  · rw [if_pos c9472, if_pos c9472]
    rw [wr_i', wr_nil, bothS_nil]
    unfold rfOf
    rw [if_pos h, if_pos h]
  rw [if_neg c9472, if_neg c9472]
  exact wr_nil _ _
set_option maxHeartbeats 8000000 in
theorem getRf_eq (op : Nat) (b : B) : getRf op b = emap (getRp op b) := by
  rw [emap_get]
  unfold getRf firstL partsRp
  by_cases c0 : op = 0
  · subst c0
    rw [if_pos rfl, if_pos rfl]
    unfold fltR
    show runRf 9 [99, 116] (Rf.of 0) b = _
    rw [run_c', bindX_bind, bindX_bind]
    refine bindX_same fun c b => ?_
    rw [run_t', bindX_bind]
    refine bindX_same fun t b => ?_
    rw [then_t]
    show runRf 7 (fpL c ++ []) { Rf.of 0 with code := c, text := t } b = _
    rw [List.append_nil, rf_flt]
    rfl
  rw [if_neg c0, if_neg c0]
  by_cases c2 : op = 2
  · subst c2
    rw [if_pos rfl, if_pos rfl]
    exact run_end rfl
  rw [if_neg c2, if_neg c2]
  by_cases c3 : op = 3
  · subst c3
    rw [if_pos rfl, if_pos rfl]
    show runRf 9 [116] (Rf.of 3) b = _
    rw [run_t', bindX_bind]
    refine bindX_same fun t b => ?_
    exact run_end rfl
  rw [if_neg c3, if_neg c3]
  by_cases c6 : op = 6
  · subst c6
    rw [if_pos rfl, if_pos rfl]
    show runRf 9 [109] (Rf.of 6) b = _
    rw [run_m', bindX_bind]
    refine bindX_same fun t b => ?_
    exact run_end rfl
  rw [if_neg c6, if_neg c6]
  by_cases c8 : op = 8
  · subst c8
    rw [if_pos rfl, if_pos rfl]
    unfold resR
    show runRf 9 [107] (Rf.of 8) b = _
    rw [run_k', bindX_bind]
    refine bindX_same fun k b => ?_
    rw [then_k]
    show thenX (if k = 1 then some [] else if k = 2 then some [82] else if k = 3 then some [116] else if k = 4 then some [105, 82] else if k = 5 then some [87, 84, 83, 88] else none) (fun m => runRf 8 (m ++ []) { Rf.of 8 with kind := k } b) = bindX (resTR k b) endX
    unfold resTR
    by_cases k1 : k = 1
    · rw [if_pos k1, if_pos k1]
      exact run_end rfl
    rw [if_neg k1, if_neg k1]
    by_cases k2 : k = 2
    · subst k2
      exact run_end rfl
    rw [if_neg k2]
    by_cases k3 : k = 3
    · rw [if_pos k3, if_pos k3, thenX_some, bindX_bind]
      show runRf 8 [116] _ b = _
      rw [run_t']
      refine bindX_same fun t b => ?_
      exact run_end rfl
    rw [if_neg k3, if_neg k3]
    by_cases k4 : k = 4
    · subst k4
      rw [if_pos rfl, thenX_some]
      show runRf 8 [105, 82] _ b = bindX (bindR (getText b) _) endX
      rw [run_i', bindX_bind]
      refine bindX_same fun t b => ?_
      exact run_end rfl
    rw [if_neg k4]
    by_cases k5 : k = 5
    · rw [if_pos k5, if_pos k5, thenX_some, bindX_bind]
      show runRf 8 [87, 84, 83, 88] _ b = _
      rw [run_chg (n := 2) rfl]
      refine bindX_same fun c b => ?_
      exact run_end rfl
    rw [if_neg k5, if_neg k5, if_neg k4, if_neg k2]
    rfl
  rw [if_neg c8, if_neg c8]
  by_cases c12 : op = 12
  · subst c12
    rw [if_pos rfl, if_pos rfl]
    unfold nteR
    show runRf 9 [69] (Rf.of 12) b = _
    rw [run_E', bindX_bind, bindX_bind, bindX_word]
    refine bindX_same fun k b => ?_
    rw [then_E]
    show thenX (if k = wTopology ∨ k = wStatus then some [72, 65] else if k = wSchema then some [87, 84, 83, 88] else none) (fun m => runRf 8 (m ++ []) { Rf.of 12 with event := k } b) = _
    by_cases hk : k = wTopology ∨ k = wStatus
    · have hne : k ≠ wSchema := by rcases hk with rfl | rfl <;> decide
      rw [if_pos hk, if_pos (mem_E.2 (by rcases hk with h | h; exact .inl h; exact .inr (.inl h))), if_neg hne, thenX_some, bindX_bind, bindX_word]
      show runRf 8 [72, 65] _ b = _
      rw [run_H']
      refine bindX_same fun w b => ?_
      rw [then_H]
      show thenX (if k = wStatus then boolL (decide (w ∈ wdsU)) else boolL (decide (w ∈ wdsN))) _ = _
      have e : (if k = wStatus then boolL (decide (w ∈ wdsU)) else boolL (decide (w ∈ wdsN))) = boolL (decide (w ∈ (if k = wTopology then wdsN else wdsU))) := by
        by_cases hs : k = wStatus
        · rw [if_pos hs, if_neg (by rw [hs]; decide)]
        · rw [if_neg hs, if_pos (hk.resolve_right hs)]
      rw [e, thenX_bool]
      by_cases hw : w ∈ (if k = wTopology then wdsN else wdsU)
      case neg => rw [if_neg hw, if_neg hw]
      rw [if_pos hw, if_pos hw]
      show runRf 7 [65] _ b = _
      rw [run_A', bindX_bind]
      refine bindX_same fun a b => ?_
      exact run_end rfl
    · rw [if_neg hk]
      by_cases hs : k = wSchema
      · rw [if_pos hs, if_pos (mem_E.2 (.inr (.inr hs))), if_pos hs, thenX_some, bindX_bind]
        show runRf 8 [87, 84, 83, 88] _ b = _
        rw [run_chg (n := 2) rfl]
        refine bindX_same fun c b => ?_
        exact run_end rfl
      · rw [if_neg hs, if_neg (fun h => by rcases mem_E.1 h with h | h | h; exact hk (.inl h); exact hk (.inr h); exact hs h)]
        rfl
  rw [if_neg c12, if_neg c12]
  by_cases c14 : op = 14 ∨ op = 16
  · rw [if_pos c14, if_pos c14]
    show runRf 9 [118] (Rf.of op) b = _
    rw [run_v', bindX_bind]
    refine bindX_same fun v b => ?_
    rcases c14 with rfl | rfl <;> exact run_end rfl
  rw [if_neg c14, if_neg c14]
  rfl
set_option maxHeartbeats 8000000 in
theorem putRf_eq (x : Rp) : putRf (rfOf x) = putRp x := by
  unfold putRf firstL putRp
  show (match (if x.opcode = 0 then some [99, 116] else if x.opcode = 2 then some [] else if x.opcode = 3 then some [116] else if x.opcode = 6 then some [109] else if x.opcode = 8 then some [107] else if x.opcode = 12 then some [69] else if x.opcode = 14 ∨ x.opcode = 16 then some [118] else none) with | Option.none => (.error 22 : Wr) | some ls => wrRf 9 ls (rfOf x)) = _
  have ht : ∀ {n ls}, x.opcode ≠ 0 → wrRf (n + 1) (116 :: ls) (rfOf x) = bothW (text x.text) (wrRf n ls (rfOf x)) := fun {n ls} h => by
    rw [wr_t', then_t]
    show thenX (if x.opcode = 0 then some (fpL x.fault.code) else some []) _ = _
    rw [if_neg h, thenX_some]
    unfold rfOf
    rw [if_neg h]
    rfl
  by_cases c0 : x.opcode = 0
  · rw [if_pos c0, if_pos c0]
    show wrRf 9 [99, 116] (rfOf x) = _
    rw [wr_c', wr_t', then_t]
    show bothW _ (thenX (if x.opcode = 0 then some (fpL x.fault.code) else some []) _) = _
    rw [if_pos c0, thenX_some, List.append_nil, wrf_flt c0]
    unfold fltW rfOf
    rw [if_pos c0]
  rw [if_neg c0, if_neg c0]
  by_cases c2 : x.opcode = 2
  · rw [if_pos c2, if_pos c2]
    rfl
  rw [if_neg c2, if_neg c2]
  by_cases c3 : x.opcode = 3
  · rw [if_pos c3, if_pos c3]
    show wrRf 9 [116] (rfOf x) = _
    rw [ht c0, wr_nil, bothS_nil]
  rw [if_neg c3, if_neg c3]
  by_cases c6 : x.opcode = 6
  · rw [if_pos c6, if_pos c6]
    show wrRf 9 [109] (rfOf x) = _
    rw [wr_m', wr_nil, bothS_nil]
    rfl
  rw [if_neg c6, if_neg c6]
  by_cases c8 : x.opcode = 8
  · rw [if_pos c8, if_pos c8]
    show wrRf 9 [107] (rfOf x) = _
    rw [wr_k', then_k]
    show thenX (if x.kind = 1 then some [] else if x.kind = 2 then some [82] else if x.kind = 3 then some [116] else if x.kind = 4 then some [105, 82] else if x.kind = 5 then some [87, 84, 83, 88] else none) (fun m => bothW (.ok (enc 4 x.kind)) (wrRf 8 (m ++ []) (rfOf x))) = _
    unfold resW resTW
    by_cases k1 : x.kind = 1
    · rw [if_pos k1, if_pos k1]
      rfl
    rw [if_neg k1, if_neg k1]
    by_cases k2 : x.kind = 2
    · rw [if_pos k2, if_neg (by omega), if_neg (by omega), if_neg (by omega), if_pos k2, thenX_some]
      show bothW _ (wrRf 8 [82] (rfOf x)) = _
      rw [wr_R', wr_nil, bothS_nil]
      rfl
    rw [if_neg k2]
    by_cases k3 : x.kind = 3
    · rw [if_pos k3, if_pos k3, thenX_some]
      show bothW _ (wrRf 8 [116] (rfOf x)) = _
      rw [ht c0, wr_nil, bothS_nil]
    rw [if_neg k3, if_neg k3]
    by_cases k4 : x.kind = 4
    · rw [if_pos k4, if_neg (by omega), if_pos k4, thenX_some]
      show bothW _ (wrRf 8 [105, 82] (rfOf x)) = _
      rw [wr_i', wr_R', wr_nil, bothS_nil]
      unfold rfOf
      rw [if_neg c0, if_neg c0]
    rw [if_neg k4]
    by_cases k5 : x.kind = 5
    · rw [if_pos k5, if_pos k5, thenX_some]
      show bothW _ (wrRf 8 [87, 84, 83, 88] (rfOf x)) = _
      rw [wr_chg (n := 2)]
      unfold rfOf
      rw [if_neg (show ¬ x.opcode = 12 by omega)]
    rw [if_neg k5, if_neg k5, if_neg k4, if_neg k2]
    rfl
  rw [if_neg c8, if_neg c8]
  by_cases c12 : x.opcode = 12
  · rw [if_pos c12, if_pos c12]
    show wrRf 9 [69] (rfOf x) = _
    rw [wr_E', then_E]
    show thenX (if x.note.kind = wTopology ∨ x.note.kind = wStatus then some [72, 65] else if x.note.kind = wSchema then some [87, 84, 83, 88] else none) (fun m => bothW (text x.note.kind) (wrRf 8 (m ++ []) (rfOf x))) = _
    unfold nteW
    by_cases hk : x.note.kind = wTopology ∨ x.note.kind = wStatus
    · have hne : x.note.kind ≠ wSchema := by rcases hk with h | h <;> rw [h] <;> decide
      rw [if_pos hk, if_neg hne, thenX_some]
      unfold wordW
      rw [if_pos (mem_E.2 (by rcases hk with h | h; exact .inl h; exact .inr (.inl h)))]
      refine congrArg _ ?_
      show wrRf 8 [72, 65] (rfOf x) = _
      rw [wr_H', then_H]
      show thenX (if x.note.kind = wStatus then boolL (decide (x.note.what ∈ wdsU)) else boolL (decide (x.note.what ∈ wdsN))) _ = _
      have e : (if x.note.kind = wStatus then boolL (decide (x.note.what ∈ wdsU)) else boolL (decide (x.note.what ∈ wdsN))) = boolL (decide (x.note.what ∈ (if x.note.kind = wTopology then wdsN else wdsU))) := by
        by_cases hs : x.note.kind = wStatus
        · rw [if_pos hs, if_neg (by rw [hs]; decide)]
        · rw [if_neg hs, if_pos (hk.resolve_right hs)]
      rw [e, thenX_bool]
      by_cases hw : x.note.what ∈ (if x.note.kind = wTopology then wdsN else wdsU)
      case neg => rw [if_neg hw, if_neg hw]; rfl
      rw [if_pos hw, if_pos hw]
      refine congrArg _ ?_
      show wrRf 7 [65] (rfOf x) = _
      rw [wr_A', wr_nil, bothS_nil]
      rfl
    · rw [if_neg hk]
      by_cases hs : x.note.kind = wSchema
      · rw [if_pos hs, if_pos hs, thenX_some]
        unfold wordW
        rw [if_pos (mem_E.2 (.inr (.inr hs)))]
        refine congrArg _ ?_
        show wrRf 8 [87, 84, 83, 88] (rfOf x) = _
        rw [wr_chg (n := 2)]
        unfold rfOf
        rw [if_pos c12]
      · unfold wordW
        rw [if_neg hs, if_neg (fun h => by rcases mem_E.1 h with h | h | h; exact hk (.inl h); exact hk (.inr h); exact hs h)]
        rfl
  rw [if_neg c12, if_neg c12]
  by_cases c14 : x.opcode = 14 ∨ x.opcode = 16
  · rw [if_pos c14, if_pos c14]
    show wrRf 9 [118] (rfOf x) = _
    rw [wr_v', wr_nil, bothS_nil]
    rfl
  rw [if_neg c14, if_neg c14]
end Sb
