/- The walk over signalboxlaw09.ReplyGets: true at every input, and nothing that was there has turned. Conditions: none. -/
import Derived.Test.YtfeeeighafflnaaGreatAwake9
import Derived.Test.YtfeeeighafflnaaGreatRyo
import Derived.Test.YtfeeeighafflnaaGreatRyj
import Derived.Test.YtfeeeighafflnaaGreatRym
import Derived.Test.YtfeeeighafflnaaGreatRyl
import Derived.Deep.CutBlock
import Derived.Deep.DeepCutAuto
import Derived.Deep.QuietTactic
import Derived.BigQuiet
set_option linter.unusedVariables false
set_option linter.unusedSimpArgs false
namespace Sb
open Go.Proofs.Sb
section
variable {L : Nat}
theorem gbTextsN : Gb L getTexts (fun l => l.length ≤ 1000000) := (gbL gbText).imp fun l h => by have := h.2; omega
theorem gbMultiN : Gb L multiR (fun y => y.2.length ≤ 1000000) := by
  rw [show multiR = bothR getText getTexts from rfl, eqBoth]
  exact gbText.bind fun _ _ => gbTextsN.bind fun _ h => .pure h
theorem gbTailN (t : B) : Gb L (tailR t) (fun p => p.2.length ≤ 1000000) :=
  .ite (gbText.bind fun n hn => gbTextsN.bind fun a ha => .pure ha) (.ite (gbText.bind fun n hn => .pure (Nat.zero_le _)) (.pure (Nat.zero_le _)))
theorem gbChgN : Gb L chgR (fun c => c.args.length ≤ 1000000) :=
  (gbWord _).bind fun a ha => (gbWord _).bind fun t ht => gbText.bind fun s hs => (gbTailN t).bind fun p hp => .pure hp
theorem gbFltTN (c : Nat) (t : B) : Gb L (fltTR c t) (fun f => f.args.length ≤ 1000000) := by
  have hz : ([] : List B).length ≤ 1000000 := Nat.zero_le _
  exact .ite (gbCons.bind fun l hl => gbNum.bind fun n hn => gbNum.bind fun r hr => .pure hz)
    (.ite (gbCons.bind fun l hl => gbNum.bind fun r hr => gbNum.bind fun n hn => gbText.bind fun w hw => .pure hz)
    (.ite (gbCons.bind fun l hl => gbNum.bind fun r hr => gbNum.bind fun n hn => (gbN 1).bind fun d hd => .pure hz)
    (.ite (gbCons.bind fun l hl => gbNum.bind fun r hr => gbNum.bind fun n hn => gbNum.bind fun f hf => (gbN 1).bind fun d hd => .pure hz)
    (.ite (gbCons.bind fun l hl => gbNum.bind fun r hr => gbNum.bind fun n hn => gbNum.bind fun f hf => gbText.bind fun w hw => .pure hz)
    (.ite (gbText.bind fun s hs => gbText.bind fun n hn => gbTextsN.bind fun a ha => .pure ha)
    (.ite (gbText.bind fun s hs => gbText.bind fun n hn => .pure hz)
    (.ite (gbText.bind fun i hi => .pure hz) (.pure hz))))))))
theorem gbFltN : Gb L fltR (fun f => f.args.length ≤ 1000000) := (gbN 4).bind fun c _ => gbText.bind fun t _ => gbFltTN c t
theorem gbNteN : Gb L nteR (fun n => n.schema.args.length ≤ 1000000) :=
  (gbWord _).bind fun k _ => .ite (gbChgN.bind fun c hc => .pure hc) ((gbWord _).bind fun w _ => gbInet.bind fun a _ => .pure (Nat.zero_le _))
theorem rpL_of (op : Nat) : RpL (Rp.of op) := ⟨Nat.zero_le _, Nat.zero_le _, Nat.zero_le _, Nat.zero_le _, fun y hy => by cases hy⟩
theorem gbResTN (k : Nat) : Gb L (resTR k) RpL := by
  have z := rpL_of 8
  have e : resTR k = fun b => if k = 1 then .ok ({ Rp.of 8 with kind := k }, b) else if k = 3 then bindR (getText b) fun s b => .ok ({ Rp.of 8 with kind := k, text := s }, b) else if k = 5 then bindR (chgR b) fun c b => .ok ({ Rp.of 8 with kind := k, change := c }, b) else if k = 4 then bindR (getText b) fun i b => bindR (allR b) fun r b => .ok ({ Rp.of 8 with kind := k, ident := i, rest := r }, b) else if k = 2 then bindR (allR b) fun r b => .ok ({ Rp.of 8 with kind := k, rest := r }, b) else .error 11 := rfl
  have ga : Gb L allR (fun _ => True) := fun b x r hb h => by obtain ⟨rfl, rfl⟩ := pureI h; exact ⟨trivial, Nat.zero_le _⟩
  rw [e]
  exact .ite (.pure { z with }) (.ite (gbText.bind fun s hs => .pure { z with }) (.ite (gbChgN.bind fun c hc => .pure { z with cg := hc })
    (.ite (gbText.bind fun i hi => ga.bind fun r hr => .pure { z with }) (.ite (ga.bind fun r hr => .pure { z with }) (.err _)))))
theorem gbRpN (op : Nat) : Gb L (partsRp op) RpL := by
  have z := rpL_of op
  exact .ite (gbFltN.bind fun f hf => .pure { z with fa := hf }) (.ite (.pure z) (.ite (gbText.bind fun s hs => .pure { z with })
    (.ite ((gbL gbMultiN).bind fun l hl => .pure { z with su := (by have := hl.2; show l.length ≤ _; omega), vals := hl.1 }) (.ite ((gbN 4).bind fun k hk => gbResTN k) (.ite (gbNteN.bind fun n hn => .pure { z with sc := hn }) (.ite (gbValue.bind fun v hv => .pure { z with }) (.err _)))))))
end
theorem rpOf_rpL {op : Nat} {b : B} {r : Except Int Rp} (h : getRp op b = r) : RpL (rpOf r) := by
  cases r with
  | error e => exact rpL_of 0
  | ok x => exact (gbRpN (L := b.length) op _ _ _ (Nat.le_refl _) (getRp_parts h)).1
theorem emap_val (r : Except Int Rp) : rfX (emap r) = rfOf (rpOf r) := by cases r <;> rfl
theorem emap_err (r : Except Int Rp) : erX (emap r) = erP r := by cases r <;> rfl
end Sb
namespace Go.Proofs.Sb
open Go.RowKit _root_.Sb
/-- a box read as a whole in a region that draws its order -/
theorem step_loadW {P : Program} {ops : Array Oper} {o : Oper} {a : Act} {w : World} {Q : Exit → Act → World → Prop} {K : Act → World → Prop} {E : Prop} {S : Nat → Prop} {X : Nat} {vs : List Value} (hB : Bx S w X vs) (hw : Region.wanted o (yielded ops a.tmps) = true) (ty : TypeId) (x : Operand) (ho : o.op = .load ty x) (hx : a.eval x = .pointer (some ⟨X, 0, none⟩)) (d : TypeDesc)
    (hu : P.underlying ty = some d) (hd : d.isRow = true) (hi : (P.info? ty).map (·.size) = some vs.length)
    (h : K (a.put o.dst (.agg vs.toArray)) w) : if Region.wanted o (yielded ops a.tmps) = true then Oper.wp P o a w K Q else E := by
  rw [if_pos hw]
  exact wp_load_mid ty x ho X 0 hx vs d hB.range hu hd hi h
end Go.Proofs.Sb

/- The walk over signalboxlaw09.ReplyPuts: true at every input, and nothing that was there has turned. Conditions: lengths up to 2^20. -/
namespace Sb
open Go.Proofs.Sb
theorem rpL_small {x : Rp} (h : RpA 140737488355328 x) (s : RpS x) : RpL x := by
  have hc := s.cnt
  unfold cntP at hc
  exact ⟨by omega, by omega, by omega, by omega, fun y hy => by have := cntM_mem hy; omega⟩
theorem rfB_small {x : Rp} (h : RpA 140737488355328 x) (s : RpS x) : RfB (rfOf x) := by
  have hc := s.cnt
  have hr := s.rest
  have ht := h.token
  have ha := h.addr
  have hm := small_M s
  have hk := h.flt
  unfold cntP at hc
  refine ⟨hk.code, ?_, hk.level, hk.received, hk.needed, hk.failures, hk.data, hk.write, hk.space, hk.name, ?_, ?_, h.kind, h.what, ?_, h.port, ?_, h.rkind, ?_, ?_, 6700000, hm.1, by decide, ?_⟩
  · show strOk (if x.opcode = 0 then x.fault.text else x.text)
    split
    · exact hk.text
    · exact strOk_of h.text (by decide)
  · show strOk (if x.opcode = 0 then x.fault.ident else x.ident)
    split
    · exact hk.ident
    · exact strOk_of h.ident (by decide)
  · show x.token.bytes.length ≤ _; omega
  · exact strOk_of ha (by decide)
  · show ChgB (if x.opcode = 12 then x.note.schema else x.change)
    split
    · exact h.sch
    · exact h.chg
  · show x.rest.length ≤ _; omega
  · exact fun y hy => by have := cntM_mem (l := x.support) hy; omega
  · exact Nat.le_trans hm.2 (by decide)
theorem lenS_ite {c : Prop} [Decidable c] {a b : Wr} {n : Nat} (ha : lenS a ≤ n) (hb : lenS b ≤ n) : lenS (if c then a else b) ≤ n := by split <;> assumption
theorem wl_small {x : Rp} (h : RpA 140737488355328 x) (s : RpS x) (L : Nat) (hv : L ≠ 118) : lenS (writeL L (rfOf x)) ≤ 1000000000 := by
  have hc := s.cnt
  unfold cntP at hc
  have h1 := textsS_few (l := x.fault.args) (by omega)
  have h2 := textsS_few (l := x.note.schema.args) (by omega)
  have h3 := textsS_few (l := x.change.args) (by omega)
  have h4 := s.rest
  have hm := small_M s
  have ht : ∀ y, lenS (text y) ≤ 1000000000 := fun y => Nat.le_trans (textS_len y) (by decide)
  have hn : ∀ y, lenS (num4W y) ≤ 1000000000 := fun y => Nat.le_trans (num4S_len y) (by decide)
  have he : ∀ k y, k ≤ 1000000000 → lenS (.ok (enc k y)) ≤ 1000000000 := fun k y hk => by rw [encS_len]; exact hk
  have hch : lenS (texts (rfOf x).change.args) ≤ 1000000000 := by
    show lenS (texts (if x.opcode = 12 then x.note.schema else x.change).args) ≤ _
    split <;> omega
  have hsu : lenS (putL multiW x.support) ≤ 1000000000 := by
    cases hp : putL multiW x.support with
    | error e => exact Nat.zero_le _
    | ok b => have := (putL_len hm.1 hp).2; show b.length ≤ _; omega
  unfold writeL
  refine lenS_ite (he _ _ (by decide)) ?_
  refine lenS_ite (he _ _ (by decide)) ?_
  refine lenS_ite (ht _) ?_
  refine lenS_ite (Nat.le_trans (consS_len _) (by decide)) ?_
  refine lenS_ite (hn _) ?_
  refine lenS_ite (hn _) ?_
  refine lenS_ite (hn _) ?_
  refine lenS_ite (he _ _ (by decide)) ?_
  refine lenS_ite (ht _) ?_
  refine lenS_ite (ht _) ?_
  refine lenS_ite (ht _) ?_
  refine lenS_ite ((show lenS (texts x.fault.args) ≤ _ by omega)) ?_
  refine lenS_ite (ht _) ?_
  refine lenS_ite (hsu) ?_
  rw [if_neg hv]
  refine lenS_ite (ht _) ?_
  refine lenS_ite (ht _) ?_
  refine lenS_ite (Nat.le_trans (inetS_len _) (by decide)) ?_
  refine lenS_ite ((show x.rest.length ≤ _ by omega)) ?_
  refine lenS_ite (ht _) ?_
  refine lenS_ite (ht _) ?_
  refine lenS_ite (ht _) ?_
  refine lenS_ite (ht _) ?_
  refine lenS_ite (hch) ?_
  exact Nat.zero_le _
theorem wl_small' {x : Rp} (h : RpA 140737488355328 x) (s : RpS x) : ∀ L b, L ≠ 118 → writeL L (rfOf x) = .ok b → b.length ≤ 1000000000 := fun L b hv hb => by
  have := wl_small h s L hv
  rw [hb] at this
  exact this
end Sb
namespace Go.Proofs.Sb
open Go.RowKit _root_.Sb
end Go.Proofs.Sb

/- The walk over signalboxlaw09.ReplySupports: true at every input, and nothing that was there has turned. Conditions: lengths up to 2^20. (written by gen_lawys.py) -/
namespace Sb
open Go.Proofs.Sb
theorem werr_err (e : Int) : werr (.error e) = e := rfl
def supQ (l : List (B × List B)) : Rp := { Rp.of 6 with support := l }
def autQ (x : B) : Rp := { Rp.of 3 with text := x }
def tokQ (v : Val) : Rp := { Rp.of 14 with token := v }
theorem rpA_of {op : Nat} (h : op < 256) : RpA 140737488355328 (Rp.of op) :=
  ⟨h, (rpB_of h).flt, Nat.zero_le _, strOk_nil, strOk_nil, (rpB_of h).port, Nat.zero_le _, chgB_none, (rpB_of h).rkind, chgB_none, Nat.zero_le _, Nat.zero_le _, Nat.zero_le _, Nat.zero_le _, Nat.zero_le _, Nat.zero_le _, Nat.zero_le _, Nat.zero_le _, fun y hy => by cases hy⟩
theorem supA {l : List (B × List B)} (hn : l.length ≤ 140737488355328) (hl : ∀ y ∈ l, y.2.length ≤ 140737488355328) : RpA 140737488355328 (supQ l) := { rpA_of (op := 6) (by decide) with nsu := hn, sup := hl }
theorem autA {x : B} (h : x.length ≤ 1048576) : RpA 140737488355328 (autQ x) := { rpA_of (op := 3) (by decide) with text := Nat.le_trans h (by decide) }
theorem tokA {v : Val} (h : v.bytes.length ≤ 1048576) : RpA 140737488355328 (tokQ v) := { rpA_of (op := 14) (by decide) with token := Nat.le_trans h (by decide) }
theorem autS (x : B) : RpS (autQ x) := ⟨(by decide : (0 : Nat) < 100), (by decide : (0 : Nat) < 1000)⟩
theorem tokS (v : Val) : RpS (tokQ v) := ⟨(by decide : (0 : Nat) < 100), (by decide : (0 : Nat) < 1000)⟩
theorem aut_put {x : B} (h : x.length ≤ 1000) : ∃ b, putRp (autQ x) = .ok b := by
  refine ⟨enc 2 x.length ++ x, ?_⟩
  show text x = _
  unfold text
  rw [if_neg (by omega)]
theorem tok_put {v : Val} (h0 : 0 ≤ v.kind) (h2 : v.kind ≤ 2) : ∃ b, putRp (tokQ v) = .ok b := by
  show ∃ b, value v = .ok b
  unfold value
  by_cases k0 : v.kind = 0
  · rw [if_pos k0]; exact ⟨_, rfl⟩
  by_cases k1 : v.kind = 1
  · rw [if_neg k0, if_pos k1]; exact ⟨_, rfl⟩
  rw [if_neg k0, if_neg k1, if_pos (by omega)]; exact ⟨_, rfl⟩
theorem norm_kind (v : Val) : v.norm.kind = v.kind := by unfold Val.norm; split <;> rfl
end Sb
namespace Go.Proofs.Sb
open Go.RowKit _root_.Sb
theorem goesMul {l : List (B × List B)} {A : Option Addr} {n c : Nat} : Goes fun S w => Arr 2 (multiP S w) S w A n c l :=
  ⟨fun h hs hk => (goesArr.keep h hs hk).imp fun x _ v hp => hp.imp fun _ _ _ _ h => goesArr.keep h hs hk, fun h hS => (goesArr.mono h hS).imp fun x _ v hp => hp.imp fun _ _ _ _ h => goesArr.mono h hS⟩
def supT (A : Option Addr) (n c : Nat) : Trs := { Trs.z with su := ⟨A, n, c⟩ }
def tokT (A : Option Addr) (n c : Nat) : Trs := { Trs.z with tk := ⟨A, n, c⟩ }
end Go.Proofs.Sb
