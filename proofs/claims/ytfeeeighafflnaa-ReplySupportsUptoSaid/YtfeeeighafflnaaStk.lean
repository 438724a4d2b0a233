/- Walks over reply.stream's result, parts, reading. Conditions: lengths up to 2^47. -/
import Derived.Test.YtfeeeighafflnaaStj
set_option linter.unusedVariables false
set_option linter.unusedSimpArgs false
namespace Sb
theorem res_R {s s1 : Wr} {k : Nat} {x : Rp} (h1 : gR (getN 4) s = s1) (hk : gV 0 (getN 4) s = k) (hx : Tie (resTR k) s1 x) : Tie resR s x ∧ gR resR s = gR (resTR k) s1 := by
  have t1 : Tie (getN 4) s k := hk ▸ tie_gV 0 (getN 4) s
  have e : resR = fun b => bindR (getN 4 b) fun k b => resTR k b := rfl
  rw [e]
  refine ⟨tie_bindT t1 ?_, ?_⟩
  · rw [h1]
    exact hx
  · rw [gR_bindT t1, h1]
theorem resT_1 : resTR 1 = fun b => .ok ({ Rp.of 8 with kind := 1 }, b) := rfl
theorem resT_3 : resTR 3 = fun b => bindR (getText b) fun s b => .ok ({ Rp.of 8 with kind := 3, text := s }, b) := rfl
theorem resT_5 : resTR 5 = fun b => bindR (chgR b) fun c b => .ok ({ Rp.of 8 with kind := 5, change := c }, b) := rfl
theorem resT_4 : resTR 4 = fun b => bindR (getText b) fun i b => bindR (allR b) fun r b => .ok ({ Rp.of 8 with kind := 4, ident := i, rest := r }, b) := rfl
theorem resT_2 : resTR 2 = fun b => bindR (allR b) fun r b => .ok ({ Rp.of 8 with kind := 2, rest := r }, b) := rfl
theorem resT_no {k : Nat} (h1 : k ≠ 1) (h3 : k ≠ 3) (h5 : k ≠ 5) (h4 : k ≠ 4) (h2 : k ≠ 2) : resTR k = fun _ => .error 11 := by
  funext b
  unfold resTR
  rw [if_neg h1, if_neg h3, if_neg h5, if_neg h4, if_neg h2]
theorem tie_err {α : Type} (e : Int) (s : Wr) (x : α) : Tie (fun _ => (.error e : Res α)) s x := fun _ _ _ _ h => by cases h
theorem gR_error {α : Type} (e : Int) (s : Wr) : gR (fun _ => (.error e : Res α)) s = mustR false e s := by cases s <;> simp [gR, mustR]
end Sb
namespace Go.Proofs.Sb
open Go.RowKit _root_.Sb
/-- a row's slice -/
structure Tr where
  a : Option Addr
  n : Nat
  c : Nat
def Tr.v (t : Tr) : Value := .slice t.a t.n t.c
def Tr.z : Tr := ⟨none, 0, 0⟩
/-- the rows of a reply -/
structure Trs where
  fa : Tr
  fi : Tr
  su : Tr
  tk : Tr
  ad : Tr
  sc : Tr
  cg : Tr
  idn : Tr
  rs : Tr
def Trs.z : Trs := ⟨.z, .z, .z, .z, .z, .z, .z, .z, .z⟩
def rpT (x : Rp) (t : Trs) : List Value := rpV x t.fa.v t.fi.v t.su.v t.tk.v t.ad.v t.sc.v t.cg.v t.idn.v t.rs.v
structure RpR (S : Nat → Prop) (w : World) (x : Rp) (t : Trs) : Prop where
  fa : Arr 1 strP S w t.fa.a t.fa.n t.fa.c x.fault.args
  fi : Sl S w t.fi.a t.fi.n t.fi.c x.fault.ident
  su : Arr 2 (multiP S w) S w t.su.a t.su.n t.su.c x.support
  tk : Sl S w t.tk.a t.tk.n t.tk.c x.token.bytes
  ad : Sl S w t.ad.a t.ad.n t.ad.c x.note.addr.addr
  sc : Arr 1 strP S w t.sc.a t.sc.n t.sc.c x.note.schema.args
  cg : Arr 1 strP S w t.cg.a t.cg.n t.cg.c x.change.args
  idn : Sl S w t.idn.a t.idn.n t.idn.c x.ident
  rs : Sl S w t.rs.a t.rs.n t.rs.c x.rest
theorem goesRp {x : Rp} {t : Trs} : Goes fun S w => RpR S w x t :=
  ⟨fun h hs hk => ⟨goesArr.keep h.fa hs hk, goesSl.keep h.fi hs hk, (⟨fun h hs hk => (goesArr.keep h hs hk).imp fun x _ v hp => hp.imp fun _ _ _ _ h => goesArr.keep h hs hk, fun h hS => (goesArr.mono h hS).imp fun x _ v hp => hp.imp fun _ _ _ _ h => goesArr.mono h hS⟩ : Goes fun S w => Arr 2 (multiP S w) S w t.su.a t.su.n t.su.c x.support).keep h.su hs hk, goesSl.keep h.tk hs hk, goesSl.keep h.ad hs hk, goesArr.keep h.sc hs hk, goesArr.keep h.cg hs hk, goesSl.keep h.idn hs hk, goesSl.keep h.rs hs hk⟩,
   fun h hS => ⟨goesArr.mono h.fa hS, goesSl.mono h.fi hS, (⟨fun h hs hk => (goesArr.keep h hs hk).imp fun x _ v hp => hp.imp fun _ _ _ _ h => goesArr.keep h hs hk, fun h hS => (goesArr.mono h hS).imp fun x _ v hp => hp.imp fun _ _ _ _ h => goesArr.mono h hS⟩ : Goes fun S w => Arr 2 (multiP S w) S w t.su.a t.su.n t.su.c x.support).mono h.su hS, goesSl.mono h.tk hS, goesSl.mono h.ad hS, goesArr.mono h.sc hS, goesArr.mono h.cg hS, goesSl.mono h.idn hS, goesSl.mono h.rs hS⟩⟩
theorem rp_none {S : Nat → Prop} {w : World} {op : Nat} : RpR S w (Rp.of op) .z := ⟨Arr.nil, Sl.nil, Arr.nil, Sl.nil, Sl.nil, Arr.nil, Arr.nil, Sl.nil, Sl.nil⟩
set_option maxHeartbeats 16000000 in
set_option maxRecDepth 100000 in
theorem rdm_result {S : Nat → Prop} {w : World} {X P : Nat} {s : Wr} (h : StR S w X s) (hB : Bx (fun b => b = P) w P (rpZ 8)) (hSX : ∀ b, S b → b ≠ X) (hSP : ∀ b, S b → b ≠ P) (hPX : P ≠ X) :
    Calls Try.prog 27 #[.pointer (some ⟨X, 0, none⟩), .pointer (some ⟨P, 0, none⟩)] w fun e w' => e = .returned (.tuple #[]) ∧ StR S w' X (gR resR s) ∧ Fr (fun b => b = X ∨ b = P) w w' ∧ ∃ x t, Bx (fun b => b = P) w' P (rpT x t) ∧ RpR (fun b => w.heap.size ≤ b) w' x t ∧ Tie resR s x := by
  have HA := Lib.hid h; clear h
  have HB := Lib.hid hB; clear hB
  have HSX := Lib.hid hSX; have HSP := Lib.hid hSP; clear hSX hSP
  go_enter Try.func27, Try.ntmps27
  go_wp2_with fail
  refine (m_code (spr_code (i := 26) (x0 := 0) HA.out HB.out rfl HSX.out HSP.out hPX)).mono ?_
  rintro e w1 ⟨rfl, hr, hf, hb⟩
  have HR1 := Lib.hid hr
  have HB1 := Lib.hid hb
  have HF1 := Lib.hid hf
  have hz1 := hf.size
  clear hr hf hb
  obtain ⟨s1, hs1⟩ : ∃ s1, gR (getN 4) s = s1 := ⟨_, rfl⟩
  obtain ⟨k, hk⟩ : ∃ k, gV 0 (getN 4) s = k := ⟨_, rfl⟩
  rw [hs1] at HR1
  rw [hk] at HB1
  have HS1 := Lib.hid hs1; have HVK := Lib.hid hk; clear hs1 hk
  have c0 := HB1.out.c 26 _ rfl
  by_cases h1 : k = 1
  · subst h1
    go_wp2_with fail
    first | refine bodyPost_end (results_none rfl _ _ _) rfl ?_ | refine bodyPost_ret (v := .tuple #[]) (results_none rfl _ _ _) rfl ?_
    have hc := res_R (x := { Rp.of 8 with kind := 1 }) HS1.out HVK.out (by rw [resT_1]; exact tie_pure _ _)
    refine ⟨rfl, ?_, HF1.out, { Rp.of 8 with kind := 1 }, .z, HB1.out, ⟨Arr.nil, Sl.nil, Arr.nil, Sl.nil, Sl.nil, Arr.nil, Arr.nil, Sl.nil, Sl.nil⟩, hc.1⟩
    rw [hc.2, resT_1, gR_pure]
    exact HR1.out
  by_cases h3 : k = 3
  · subst h3
    go_wp2_with fail
    refine (m_text (spr_text (i := 13) (x0 := []) HR1.out HB1.out rfl HSX.out HSP.out hPX)).mono ?_
    rintro e w2 ⟨rfl, hr, hf, hb⟩
    have HR2 := Lib.hid hr
    have HB2 := Lib.hid hb
    have HF2 := Lib.hid (HF1.out.trans hf)
    clear hr hf hb
    go_wp2_with fail
    first | refine bodyPost_end (results_none rfl _ _ _) rfl ?_ | refine bodyPost_ret (v := .tuple #[]) (results_none rfl _ _ _) rfl ?_
    have q := tie_gV [] getText s1
    have hc := res_R (x := { Rp.of 8 with kind := 3, text := gV [] getText s1 }) HS1.out HVK.out (by rw [resT_3]; exact tie_bindT q (tie_pure _ _))
    refine ⟨rfl, ?_, HF2.out, { Rp.of 8 with kind := 3, text := gV [] getText s1 }, .z, HB2.out, ⟨Arr.nil, Sl.nil, Arr.nil, Sl.nil, Sl.nil, Arr.nil, Arr.nil, Sl.nil, Sl.nil⟩, hc.1⟩
    rw [hc.2, resT_3, gR_bindT q, gR_pure]
    exact HR2.out
  by_cases h5 : k = 5
  · subst h5
    go_wp2_with fail
    refine (rdm_change (i := 27) HR1.out HB1.out rfl rfl rfl rfl rfl HSX.out HSP.out hPX).mono ?_
    rintro e w2 ⟨rfl, hr, hf, c, A1, m1, d1, hb, harr, htie⟩
    have HR2 := Lib.hid hr
    have HB2 := Lib.hid hb
    have HARR := Lib.hid harr
    have HTIE := Lib.hid htie
    have HF2 := Lib.hid (HF1.out.trans hf)
    clear hr hf hb harr htie
    go_wp2_with fail
    first | refine bodyPost_end (results_none rfl _ _ _) rfl ?_ | refine bodyPost_ret (v := .tuple #[]) (results_none rfl _ _ _) rfl ?_
    have hc := res_R (x := { Rp.of 8 with kind := 5, change := c }) HS1.out HVK.out (by rw [resT_5]; exact tie_bindT HTIE.out (tie_pure _ _))
    refine ⟨rfl, ?_, HF2.out, { Rp.of 8 with kind := 5, change := c }, { Trs.z with cg := ⟨A1, m1, d1⟩ }, HB2.out, ⟨Arr.nil, Sl.nil, Arr.nil, Sl.nil, Sl.nil, Arr.nil, HARR.out.mono fun b hb _ => by omega, Sl.nil, Sl.nil⟩, hc.1⟩
    rw [hc.2, resT_5, gR_bindT HTIE.out, gR_pure]
    exact HR2.out
  by_cases h4 : k = 4
  · subst h4
    go_wp2_with fail
    refine (rdm_short (i := 32) HR1.out HB1.out rfl HSX.out HSP.out hPX).mono ?_
    rintro e w2 ⟨rfl, hr, hf, A1, m1, d1, hb, hrow⟩
    have HR2 := Lib.hid hr
    have HB2 := Lib.hid hb
    have HROW := Lib.hid hrow
    have HF2 := Lib.hid (HF1.out.trans hf)
    have hlt2 := hf.size
    clear hr hf hb hrow
    go_wp2_with fail
    refine (m_all (spr_all (i := 33) HR2.out HB2.out rfl HSX.out HSP.out hPX)).mono ?_
    rintro e w3 ⟨rfl, hr, hf, A2, m2, d2, hb, hrow⟩
    have HR3 := Lib.hid hr
    have HB3 := Lib.hid hb
    have HROW2 := Lib.hid hrow
    have HROW1 := Lib.hid (goesSl.keep (HROW.out.mono (S' := fun b => w1.heap.size ≤ b) fun b hb _ => hb) hf.size fun b hb hl => hf.block b hl (by have := HB1.out.lt; have := HR1.out.lt; intro e; rcases e with e | e <;> omega))
    have HF3 := Lib.hid (HF2.out.trans hf)
    clear hr hf hb hrow
    go_wp2_with fail
    first | refine bodyPost_end (results_none rfl _ _ _) rfl ?_ | refine bodyPost_ret (v := .tuple #[]) (results_none rfl _ _ _) rfl ?_
    have q := tie_gV [] getText s1
    have q2 := tie_gV [] allR (gR getText s1)
    have hc := res_R (x := { Rp.of 8 with kind := 4, ident := gV [] getText s1, rest := gV [] allR (gR getText s1) }) HS1.out HVK.out (by rw [resT_4]; exact tie_bindT q (tie_bindT q2 (tie_pure _ _)))
    refine ⟨rfl, ?_, HF3.out, { Rp.of 8 with kind := 4, ident := gV [] getText s1, rest := gV [] allR (gR getText s1) }, { Trs.z with idn := ⟨A1, m1, d1⟩, rs := ⟨A2, m2, d2⟩ }, HB3.out, ⟨Arr.nil, Sl.nil, Arr.nil, Sl.nil, Sl.nil, Arr.nil, Arr.nil, HROW1.out.mono fun b hb _ => by omega, HROW2.out.mono fun b hb _ => by omega⟩, hc.1⟩
    rw [hc.2, resT_4, gR_bindT q, gR_bindT q2, gR_pure]
    exact HR3.out
  by_cases h2 : k = 2
  · subst h2
    go_wp2_with fail
    refine (m_all (spr_all (i := 33) HR1.out HB1.out rfl HSX.out HSP.out hPX)).mono ?_
    rintro e w2 ⟨rfl, hr, hf, A1, m1, d1, hb, hrow⟩
    have HR2 := Lib.hid hr
    have HB2 := Lib.hid hb
    have HROW := Lib.hid hrow
    have HF2 := Lib.hid (HF1.out.trans hf)
    clear hr hf hb hrow
    go_wp2_with fail
    first | refine bodyPost_end (results_none rfl _ _ _) rfl ?_ | refine bodyPost_ret (v := .tuple #[]) (results_none rfl _ _ _) rfl ?_
    have q := tie_gV [] allR s1
    have hc := res_R (x := { Rp.of 8 with kind := 2, rest := gV [] allR s1 }) HS1.out HVK.out (by rw [resT_2]; exact tie_bindT q (tie_pure _ _))
    refine ⟨rfl, ?_, HF2.out, { Rp.of 8 with kind := 2, rest := gV [] allR s1 }, { Trs.z with rs := ⟨A1, m1, d1⟩ }, HB2.out, ⟨Arr.nil, Sl.nil, Arr.nil, Sl.nil, Sl.nil, Arr.nil, Arr.nil, Sl.nil, HROW.out.mono fun b hb _ => by omega⟩, hc.1⟩
    rw [hc.2, resT_2, gR_bindT q, gR_pure]
    exact HR2.out
  have n1 : ((k : Int) == 1) = false := beq_eq_false_iff_ne.2 (by omega)
  have n3 : ((k : Int) == 3) = false := beq_eq_false_iff_ne.2 (by omega)
  have n5 : ((k : Int) == 5) = false := beq_eq_false_iff_ne.2 (by omega)
  have n4 : ((k : Int) == 4) = false := beq_eq_false_iff_ne.2 (by omega)
  have n2 : ((k : Int) == 2) = false := beq_eq_false_iff_ne.2 (by omega)
  have HNO := Lib.hid (resT_no h1 h3 h5 h4 h2)
  clear h1 h3 h5 h4 h2
  go_wp2_with fail
  refine (rdm_must HR1.out HSX.out).mono ?_
  rintro e w2 ⟨rfl, hr, hf⟩
  have HR2 := Lib.hid hr
  have HB2 := Lib.hid (goesBx.keep HB1.out hf.size fun b hb hl => hf.block b hl (by rw [hb]; exact hPX))
  have HF2 := Lib.hid (HF1.out.trans (hf.imp fun b _ h => .inl h))
  clear hr hf
  go_wp2_with fail
  first | refine bodyPost_end (results_none rfl _ _ _) rfl ?_ | refine bodyPost_ret (v := .tuple #[]) (results_none rfl _ _ _) rfl ?_
  have hc := res_R (x := { Rp.of 8 with kind := k }) HS1.out HVK.out (by rw [HNO.out]; exact tie_err _ _ _)
  refine ⟨rfl, ?_, HF2.out, { Rp.of 8 with kind := k }, .z, HB2.out, ⟨Arr.nil, Sl.nil, Arr.nil, Sl.nil, Sl.nil, Arr.nil, Arr.nil, Sl.nil, Sl.nil⟩, hc.1⟩
  rw [hc.2, HNO.out, gR_error]
  exact HR2.out
end Go.Proofs.Sb
