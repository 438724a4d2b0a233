/- Plain mathematics of bodies of requests: what is got hangs on what is got alone; cut it ends too early. No conditions. -/
import Derived.Test.YtdgmkmadlnmhbaaRqm
set_option linter.unusedVariables false
set_option linter.unusedSimpArgs false
namespace Sb
/-- what is got hangs on its own bytes alone, and cut it ends too early -/
def Lc {α : Type} (g : B → Res α) : Prop := ∀ b x r, g b = .ok (x, r) → ∃ y, b = y ++ r ∧ (∀ r', g (y ++ r') = .ok (x, r')) ∧ (∀ k, k < y.length → g (y.take k) = .error 10)
theorem Lc.bind {α β : Type} {g : B → Res α} {f : α → B → Res β} (G : Lc g) (F : ∀ a, Lc (f a)) : Lc (fun b => bindR (g b) f) := by
  intro b x r h
  cases hg : g b with
  | error e => simp only [bindR_err hg] at h; cases h
  | ok p =>
    obtain ⟨a, b1⟩ := p
    simp only [bindR_ok hg] at h
    obtain ⟨y1, e1, l1, c1⟩ := G b a b1 hg
    obtain ⟨y2, e2, l2, c2⟩ := F a b1 x r h
    refine ⟨y1 ++ y2, by rw [e1, e2, List.append_assoc], fun r' => ?_, fun k hk => ?_⟩
    · show bindR (g (y1 ++ y2 ++ r')) f = _
      rw [List.append_assoc, bindR_ok (l1 _)]
      exact l2 r'
    · show bindR (g ((y1 ++ y2).take k)) f = _
      by_cases h1 : k < y1.length
      · rw [take_app_lt h1, bindR_err (c1 k h1)]
      · rw [take_app_ge h1, bindR_ok (l1 _)]
        exact c2 _ (by rw [List.length_append] at hk; omega)
theorem Lc.pure {α : Type} (x : α) : Lc (fun b => (.ok (x, b) : Res α)) := fun b y r h => by
  injection h with h; injection h with h1 h2
  subst h1 h2
  exact ⟨[], rfl, fun r' => rfl, fun k hk => by cases hk⟩
theorem Lc.err {α : Type} (e : Int) : Lc (fun _ => (.error e : Res α)) := fun b y r h => by cases h
theorem Lc.ite {α : Type} {c : Prop} [Decidable c] {g f : B → Res α} (G : Lc g) (F : Lc f) : Lc (fun b => if c then g b else f b) := by
  by_cases h : c
  · simp only [if_pos h]; exact G
  · simp only [if_neg h]; exact F
theorem lcN (n : Nat) : Lc (getN n) := by
  intro b x r h
  have h1 := getN_ok h
  refine ⟨b.take n, by rw [h1.2.2.1, List.take_append_drop], fun r' => ?_, fun k hk => ?_⟩
  · have hl : (b.take n).length = n := by rw [List.length_take]; omega
    unfold getN at h ⊢
    rw [if_neg (by omega)] at h
    rw [if_neg (by rw [List.length_append]; omega)]
    injection h with h; injection h with h2 h3
    rw [← h2, List.take_append_of_le_length (by omega), List.take_take, Nat.min_self, List.drop_append_of_le_length (by omega), List.drop_take, Nat.sub_self, List.take_zero, List.nil_append]
  · rw [List.length_take] at hk
    unfold getN
    rw [if_pos (by rw [List.length_take, List.length_take]; omega)]
theorem lcTake (n : Nat) : Lc (takeN n) := by
  intro b x r h
  have h1 := takeN_ok h
  refine ⟨b.take n, by rw [h1.2.2, List.take_append_drop], fun r' => ?_, fun k hk => ?_⟩
  · have hl : (b.take n).length = n := by rw [List.length_take]; omega
    unfold takeN
    rw [if_neg (by rw [List.length_append]; omega), h1.2.1, List.take_append_of_le_length (by omega), List.take_take, Nat.min_self, List.drop_append_of_le_length (by omega), List.drop_take, Nat.sub_self, List.take_zero, List.nil_append]
  · rw [List.length_take] at hk
    unfold takeN
    rw [if_pos (by rw [List.length_take, List.length_take]; omega)]
theorem eqText : getText = fun b => bindR (getN 2 b) takeN := by funext b; unfold getText bindR; cases getN 2 b <;> rfl
theorem eqNum : getNum = fun b => bindR (getN 4 b) fun x r => .ok (sgn 4 x, r) := by funext b; unfold getNum bindR; cases getN 4 b <;> rfl
theorem eqLong : getLong = fun b => bindR (getNum b) fun n r => if n < 0 then .error 11 else takeN n.toNat r := by funext b; unfold getLong bindR; cases getNum b <;> rfl
theorem eqValue : getValue = fun b => bindR (getNum b) fun n r => if n = -1 then .ok (⟨0, []⟩, r) else if n = -2 then .ok (⟨1, []⟩, r) else if n < 0 then .error 11 else bindR (takeN n.toNat r) fun x r2 => .ok (⟨2, x⟩, r2) := by
  funext b
  unfold getValue bindR
  cases getNum b with
  | error e => rfl
  | ok p =>
    obtain ⟨n, r⟩ := p
    simp only
    split
    · rfl
    · split
      · rfl
      · split
        · rfl
        · cases takeN n.toNat r <;> rfl
theorem eqCons : getCons = fun b => bindR (getN 2 b) fun c r => if c > 10 then .error 11 else .ok (c, r) := by funext b; unfold getCons bindR; cases getN 2 b <;> rfl
theorem eqL {α : Type} (f : B → Res α) : getL f = fun b => bindR (getN 2 b) fun n r => getsM f n r := by funext b; unfold getL bindR; cases getN 2 b <;> rfl
theorem eqBoth {α β : Type} (f : B → Res α) (g : B → Res β) : bothR f g = fun b => bindR (f b) fun x r => bindR (g r) fun y r2 => .ok ((x, y), r2) := by
  funext b
  unfold bothR bindR
  cases f b with
  | error e => rfl
  | ok p => cases hg : g p.2 <;> simp only [hg]
theorem eqMs {α : Type} (f : B → Res α) (n : Nat) : getsM f (n + 1) = fun b => bindR (f b) fun x r => bindR (getsM f n r) fun l r2 => .ok (x :: l, r2) := by
  funext b
  rw [getsM]
  unfold bindR
  cases f b with
  | error e => rfl
  | ok p => cases hg : getsM f n p.2 <;> simp only [hg]
theorem lcText : Lc getText := by rw [eqText]; exact (lcN 2).bind lcTake
theorem lcNum : Lc getNum := by rw [eqNum]; exact (lcN 4).bind fun x => .pure _
theorem lcLong : Lc getLong := by rw [eqLong]; exact lcNum.bind fun n => .ite (.err _) (lcTake _)
theorem lcValue : Lc getValue := by rw [eqValue]; exact lcNum.bind fun n => .ite (.pure _) (.ite (.pure _) (.ite (.err _) ((lcTake _).bind fun x => .pure _)))
theorem lcCons : Lc getCons := by rw [eqCons]; exact (lcN 2).bind fun n => .ite (.err _) (.pure _)
theorem lcI8 : Lc getI8 := (lcN 8).bind fun x => .pure _
theorem lcMs {α : Type} {f : B → Res α} (F : Lc f) : ∀ n, Lc (getsM f n)
  | 0 => .pure []
  | n + 1 => by rw [eqMs]; exact F.bind fun x => (lcMs F n).bind fun l => .pure _
theorem lcL {α : Type} {f : B → Res α} (F : Lc f) : Lc (getL f) := by rw [eqL]; exact (lcN 2).bind fun n => lcMs F n
theorem lcBoth {α β : Type} {f : B → Res α} {g : B → Res β} (F : Lc f) (G : Lc g) : Lc (bothR f g) := by rw [eqBoth]; exact F.bind fun x => G.bind fun y => .pure _
theorem lcNm (n : Bool) : Lc (nmR n) := by
  cases n with
  | true => exact lcText
  | false => exact .pure []
theorem lcVals (n : Bool) : Lc (getVals n) := (lcN 2).bind fun k => lcMs (lcBoth (lcNm n) lcValue) k
theorem lcOpt {α : Type} {c : Bool} {d : α} {g : B → Res α} (G : Lc g) : Lc (optR c d g) := .ite G (.pure d)
theorem lcRun (batch : Bool) : Lc (getRun batch) :=
  lcCons.bind fun c => (lcN 1).bind fun f => .ite (.err _) ((lcOpt ((lcVals _).bind fun l => .ite (.err _) (.pure _))).bind fun l => (lcOpt lcNum).bind fun pg => (lcOpt lcValue).bind fun st => (lcOpt lcCons).bind fun sr => (lcOpt lcI8).bind fun tm => .pure _)
theorem lcStm : Lc getStm :=
  (lcN 1).bind fun k => .ite (.err _) ((Lc.ite (lcText.bind fun s => .pure _) (lcLong.bind fun s => .pure _)).bind fun s => (lcVals false).bind fun l => .pure _)
theorem lcParts (op : Nat) : Lc (getParts op) :=
  .ite ((lcL (lcBoth lcText lcText)).bind fun l => .pure _) (.ite (.pure _) (.ite (lcLong.bind fun s => (lcRun false).bind fun p => .pure _) (.ite (lcLong.bind fun s => .pure _) (.ite (lcText.bind fun s => (lcRun false).bind fun p => .pure _)
    (.ite ((lcL lcText).bind fun l => .pure _) (.ite (lcValue.bind fun v => .pure _) (.ite ((lcN 1).bind fun k => .ite (.err _) (((lcN 2).bind fun n => lcMs lcStm n).bind fun l => (lcRun true).bind fun p => .pure _)) (.err 22))))))))
theorem getRq_parts {op : Nat} {b : B} {q : Rq} (h : getRq op b = .ok q) : getParts op b = .ok (q, []) := by
  unfold getRq at h
  cases hp : getParts op b with
  | error e => rw [hp] at h; cases h
  | ok p =>
    obtain ⟨x, r⟩ := p
    rw [hp] at h
    simp only at h
    split at h
    · rename_i h0
      injection h with h
      rw [h, List.length_eq_zero_iff.1 h0]
    · cases h
/-- a body that may be, with a byte behind it, is none -/
theorem getRq_more {op : Nat} {b : B} {q : Rq} (m : UInt8) (h : getRq op b = .ok q) : getRq op (b ++ [m]) = .error 23 := by
  obtain ⟨y, e, l, c⟩ := lcParts op b q [] (getRq_parts h)
  rw [List.append_nil] at e
  subst e
  unfold getRq
  rw [l [m]]
  rfl
/-- a body that may be, cut, ends too early -/
theorem getRq_cut {op : Nat} {b : B} {q : Rq} {k : Nat} (h : getRq op b = .ok q) (hk : k < b.length) : getRq op (b.take k) = .error 10 := by
  obtain ⟨y, e, l, c⟩ := lcParts op b q [] (getRq_parts h)
  rw [List.append_nil] at e
  subst e
  unfold getRq
  rw [c k hk]
/-- errors are none that is nought -/
def Nz {α : Type} (g : B → Res α) : Prop := ∀ b e, g b = .error e → e ≠ 0
theorem Nz.bind {α β : Type} {g : B → Res α} {f : α → B → Res β} (G : Nz g) (F : ∀ a, Nz (f a)) : Nz (fun b => bindR (g b) f) := by
  intro b e h
  cases hg : g b with
  | error e' => simp only [bindR_err hg] at h; injection h with h; rw [← h]; exact G b e' hg
  | ok p => obtain ⟨a, b1⟩ := p; simp only [bindR_ok hg] at h; exact F a b1 e h
theorem Nz.pure {α : Type} (x : α) : Nz (fun b => (.ok (x, b) : Res α)) := fun b e h => by cases h
theorem Nz.err {α : Type} {e : Int} (he : e ≠ 0) : Nz (fun _ => (.error e : Res α)) := fun b y h => by injection h with h; rw [← h]; exact he
theorem Nz.ite {α : Type} {c : Prop} [Decidable c] {g f : B → Res α} (G : Nz g) (F : Nz f) : Nz (fun b => if c then g b else f b) := by
  by_cases h : c
  · simp only [if_pos h]; exact G
  · simp only [if_neg h]; exact F
theorem nzN (n : Nat) : Nz (getN n) := fun b e h => by have := getN_err h; omega
theorem nzTake (n : Nat) : Nz (takeN n) := fun b e h => by have := takeN_err h; omega
theorem nzText : Nz getText := by rw [eqText]; exact (nzN 2).bind nzTake
theorem nzNum : Nz getNum := by rw [eqNum]; exact (nzN 4).bind fun x => .pure _
theorem nzLong : Nz getLong := by rw [eqLong]; exact nzNum.bind fun n => .ite (.err (by decide)) (nzTake _)
theorem nzValue : Nz getValue := by rw [eqValue]; exact nzNum.bind fun n => .ite (.pure _) (.ite (.pure _) (.ite (.err (by decide)) ((nzTake _).bind fun x => .pure _)))
theorem nzCons : Nz getCons := by rw [eqCons]; exact (nzN 2).bind fun n => .ite (.err (by decide)) (.pure _)
theorem nzI8 : Nz getI8 := (nzN 8).bind fun x => .pure _
theorem nzMs {α : Type} {f : B → Res α} (F : Nz f) : ∀ n, Nz (getsM f n)
  | 0 => .pure []
  | n + 1 => by rw [eqMs]; exact F.bind fun x => (nzMs F n).bind fun l => .pure _
theorem nzL {α : Type} {f : B → Res α} (F : Nz f) : Nz (getL f) := by rw [eqL]; exact (nzN 2).bind fun n => nzMs F n
theorem nzBoth {α β : Type} {f : B → Res α} {g : B → Res β} (F : Nz f) (G : Nz g) : Nz (bothR f g) := by rw [eqBoth]; exact F.bind fun x => G.bind fun y => .pure _
theorem nzNm (n : Bool) : Nz (nmR n) := by
  cases n with
  | true => exact nzText
  | false => exact .pure []
theorem nzVals (n : Bool) : Nz (getVals n) := (nzN 2).bind fun k => nzMs (nzBoth (nzNm n) nzValue) k
theorem nzOpt {α : Type} {c : Bool} {d : α} {g : B → Res α} (G : Nz g) : Nz (optR c d g) := .ite G (.pure d)
theorem nzRun (batch : Bool) : Nz (getRun batch) :=
  nzCons.bind fun c => (nzN 1).bind fun f => .ite (.err (by decide)) ((nzOpt ((nzVals _).bind fun l => .ite (.err (by decide)) (.pure _))).bind fun l => (nzOpt nzNum).bind fun pg => (nzOpt nzValue).bind fun st => (nzOpt nzCons).bind fun sr => (nzOpt nzI8).bind fun tm => .pure _)
theorem nzStm : Nz getStm :=
  (nzN 1).bind fun k => .ite (.err (by decide)) ((Nz.ite (nzText.bind fun s => .pure _) (nzLong.bind fun s => .pure _)).bind fun s => (nzVals false).bind fun l => .pure _)
theorem nzParts (op : Nat) : Nz (getParts op) :=
  .ite ((nzL (nzBoth nzText nzText)).bind fun l => .pure _) (.ite (.pure _) (.ite (nzLong.bind fun s => (nzRun false).bind fun p => .pure _) (.ite (nzLong.bind fun s => .pure _) (.ite (nzText.bind fun s => (nzRun false).bind fun p => .pure _)
    (.ite ((nzL nzText).bind fun l => .pure _) (.ite (nzValue.bind fun v => .pure _) (.ite ((nzN 1).bind fun k => .ite (.err (by decide)) (((nzN 2).bind fun n => nzMs nzStm n).bind fun l => (nzRun true).bind fun p => .pure _)) (.err (by decide)))))))))
theorem getRq_ne {op : Nat} {b : B} {e : Int} (h : getRq op b = .error e) : e ≠ 0 := by
  unfold getRq at h
  cases hp : getParts op b with
  | error e' => rw [hp] at h; injection h with h; rw [← h]; exact nzParts op b e' hp
  | ok p =>
    obtain ⟨x, r⟩ := p
    rw [hp] at h
    simp only at h
    split at h
    · cases h
    · injection h with h; rw [← h]; decide
end Sb
