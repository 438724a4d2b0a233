/- Walks over reply.stream's result, parts, reading. Conditions: lengths up to 2^47. -/
import Derived.Test.YtfeeeighafflnaaGreatSti
import Derived.Test.YtfeeeighafflnaaGreatRole
set_option linter.unusedVariables false
set_option linter.unusedSimpArgs false
namespace Sb
theorem res_R {s s1 : Wr} {k : Nat} {x : Rp} (h1 : gR (getN 4) s = s1) (hk : gV 0 (getN 4) s = k) (hx : Tie (resTR k) s1 x) : Tie resR s x ∧ gR resR s = gR (resTR k) s1 := by
  have t1 : Tie (getN 4) s k := hk ▸ tie_gV 0 (getN 4) s
  have e : resR = fun b => bindR (getN 4 b) fun k b => resTR k b := rfl
  rw [e]
  refine ⟨tie_bindT t1 ?_, ?_⟩
  · rw [h1]
    exact hx
  · rw [gR_bindT t1, h1]
theorem resT_1 : resTR 1 = fun b => .ok ({ Rp.of 8 with kind := 1 }, b) := rfl
theorem resT_3 : resTR 3 = fun b => bindR (getText b) fun s b => .ok ({ Rp.of 8 with kind := 3, text := s }, b) := rfl
theorem resT_5 : resTR 5 = fun b => bindR (chgR b) fun c b => .ok ({ Rp.of 8 with kind := 5, change := c }, b) := rfl
theorem resT_4 : resTR 4 = fun b => bindR (getText b) fun i b => bindR (allR b) fun r b => .ok ({ Rp.of 8 with kind := 4, ident := i, rest := r }, b) := rfl
theorem resT_2 : resTR 2 = fun b => bindR (allR b) fun r b => .ok ({ Rp.of 8 with kind := 2, rest := r }, b) := rfl
theorem resT_no {k : Nat} (h1 : k ≠ 1) (h3 : k ≠ 3) (h5 : k ≠ 5) (h4 : k ≠ 4) (h2 : k ≠ 2) : resTR k = fun _ => .error 11 := by
  funext b
  unfold resTR
  rw [if_neg h1, if_neg h3, if_neg h5, if_neg h4, if_neg h2]
theorem tie_err {α : Type} (e : Int) (s : Wr) (x : α) : Tie (fun _ => (.error e : Res α)) s x := fun _ _ _ _ h => by cases h
theorem gR_error {α : Type} (e : Int) (s : Wr) : gR (fun _ => (.error e : Res α)) s = mustR false e s := by cases s <;> simp [gR, mustR]
end Sb
namespace Go.Proofs.Sb
open Go.RowKit _root_.Sb
/-- a row's slice -/
structure Tr where
  a : Option Addr
  n : Nat
  c : Nat
def Tr.v (t : Tr) : Value := .slice t.a t.n t.c
def Tr.z : Tr := ⟨none, 0, 0⟩
/-- the rows of a reply -/
structure Trs where
  fa : Tr
  fi : Tr
  su : Tr
  tk : Tr
  ad : Tr
  sc : Tr
  cg : Tr
  idn : Tr
  rs : Tr
def Trs.z : Trs := ⟨.z, .z, .z, .z, .z, .z, .z, .z, .z⟩
def rpT (x : Rp) (t : Trs) : List Value := rpV x t.fa.v t.fi.v t.su.v t.tk.v t.ad.v t.sc.v t.cg.v t.idn.v t.rs.v
structure RpR (S : Nat → Prop) (w : World) (x : Rp) (t : Trs) : Prop where
  fa : Arr 1 strP S w t.fa.a t.fa.n t.fa.c x.fault.args
  fi : Sl S w t.fi.a t.fi.n t.fi.c x.fault.ident
  su : Arr 2 (multiP S w) S w t.su.a t.su.n t.su.c x.support
  tk : Sl S w t.tk.a t.tk.n t.tk.c x.token.bytes
  ad : Sl S w t.ad.a t.ad.n t.ad.c x.note.addr.addr
  sc : Arr 1 strP S w t.sc.a t.sc.n t.sc.c x.note.schema.args
  cg : Arr 1 strP S w t.cg.a t.cg.n t.cg.c x.change.args
  idn : Sl S w t.idn.a t.idn.n t.idn.c x.ident
  rs : Sl S w t.rs.a t.rs.n t.rs.c x.rest
theorem goesRp {x : Rp} {t : Trs} : Goes fun S w => RpR S w x t :=
  ⟨fun h hs hk => ⟨goesArr.keep h.fa hs hk, goesSl.keep h.fi hs hk, (⟨fun h hs hk => (goesArr.keep h hs hk).imp fun x _ v hp => hp.imp fun _ _ _ _ h => goesArr.keep h hs hk, fun h hS => (goesArr.mono h hS).imp fun x _ v hp => hp.imp fun _ _ _ _ h => goesArr.mono h hS⟩ : Goes fun S w => Arr 2 (multiP S w) S w t.su.a t.su.n t.su.c x.support).keep h.su hs hk, goesSl.keep h.tk hs hk, goesSl.keep h.ad hs hk, goesArr.keep h.sc hs hk, goesArr.keep h.cg hs hk, goesSl.keep h.idn hs hk, goesSl.keep h.rs hs hk⟩,
   fun h hS => ⟨goesArr.mono h.fa hS, goesSl.mono h.fi hS, (⟨fun h hs hk => (goesArr.keep h hs hk).imp fun x _ v hp => hp.imp fun _ _ _ _ h => goesArr.keep h hs hk, fun h hS => (goesArr.mono h hS).imp fun x _ v hp => hp.imp fun _ _ _ _ h => goesArr.mono h hS⟩ : Goes fun S w => Arr 2 (multiP S w) S w t.su.a t.su.n t.su.c x.support).mono h.su hS, goesSl.mono h.tk hS, goesSl.mono h.ad hS, goesArr.mono h.sc hS, goesArr.mono h.cg hS, goesSl.mono h.idn hS, goesSl.mono h.rs hS⟩⟩
theorem rp_none {S : Nat → Prop} {w : World} {op : Nat} : RpR S w (Rp.of op) .z := ⟨Arr.nil, Sl.nil, Arr.nil, Sl.nil, Sl.nil, Arr.nil, Arr.nil, Sl.nil, Sl.nil⟩
set_option maxHeartbeats 16000000 in
set_option maxRecDepth 100000 in
theorem rdm_result {S : Nat → Prop} {w : World} {X P : Nat} {s : Wr} (h : StR S w X s) (hB : Bx (fun b => b = P) w P (rpZ 8)) (hSX : ∀ b, S b → b ≠ X) (hSP : ∀ b, S b → b ≠ P) (hPX : P ≠ X) :
    Calls Tryz.prog 24 #[.pointer (some ⟨X, 0, none⟩), .pointer (some ⟨P, 0, none⟩)] w fun e w' => e = .returned (.tuple #[]) ∧ StR S w' X (gR resR s) ∧ Fr (fun b => b = X ∨ b = P) w w' ∧ ∃ x t, Bx (fun b => b = P) w' P (rpT x t) ∧ RpR (fun b => w.heap.size ≤ b) w' x t ∧ Tie resR s x := by
  have HA := Lib.hid h; clear h
  have HB := Lib.hid hB; clear hB
  have HSX := Lib.hid hSX; have HSP := Lib.hid hSP; clear hSX hSP
  go_enter Tryz.func24, Tryz.ntmps24
  go_wp2_with fail
  refine (m_code (spr_code (i := 26) (x0 := 0) HA.out HB.out rfl HSX.out HSP.out hPX)).mono ?_
  rintro e w1 ⟨rfl, hr, hf, hb⟩
  have HR1 := Lib.hid hr
  have HB1 := Lib.hid hb
  have HF1 := Lib.hid hf
  have hz1 := hf.size
  clear hr hf hb
  obtain ⟨s1, hs1⟩ : ∃ s1, gR (getN 4) s = s1 := ⟨_, rfl⟩
  obtain ⟨k, hk⟩ : ∃ k, gV 0 (getN 4) s = k := ⟨_, rfl⟩
  rw [hs1] at HR1
  rw [hk] at HB1
  have HS1 := Lib.hid hs1; have HVK := Lib.hid hk; clear hs1 hk
  have c0 := HB1.out.c 26 _ rfl
  by_cases h1 : k = 1
  · subst h1
    go_wp2_with fail
    first | refine bodyPost_end (results_none rfl _ _ _) rfl ?_ | refine bodyPost_ret (v := .tuple #[]) (results_none rfl _ _ _) rfl ?_
    have hc := res_R (x := { Rp.of 8 with kind := 1 }) HS1.out HVK.out (by rw [resT_1]; exact tie_pure _ _)
    refine ⟨rfl, ?_, HF1.out, { Rp.of 8 with kind := 1 }, .z, HB1.out, ⟨Arr.nil, Sl.nil, Arr.nil, Sl.nil, Sl.nil, Arr.nil, Arr.nil, Sl.nil, Sl.nil⟩, hc.1⟩
    rw [hc.2, resT_1, gR_pure]
    exact HR1.out
  by_cases h3 : k = 3
  · subst h3
    go_wp2_with fail
    refine (m_text (spr_text (i := 13) (x0 := []) HR1.out HB1.out rfl HSX.out HSP.out hPX)).mono ?_
    rintro e w2 ⟨rfl, hr, hf, hb⟩
    have HR2 := Lib.hid hr
    have HB2 := Lib.hid hb
    have HF2 := Lib.hid (HF1.out.trans hf)
    clear hr hf hb
    go_wp2_with fail
    first | refine bodyPost_end (results_none rfl _ _ _) rfl ?_ | refine bodyPost_ret (v := .tuple #[]) (results_none rfl _ _ _) rfl ?_
    have q := tie_gV [] getText s1
    have hc := res_R (x := { Rp.of 8 with kind := 3, text := gV [] getText s1 }) HS1.out HVK.out (by rw [resT_3]; exact tie_bindT q (tie_pure _ _))
    refine ⟨rfl, ?_, HF2.out, { Rp.of 8 with kind := 3, text := gV [] getText s1 }, .z, HB2.out, ⟨Arr.nil, Sl.nil, Arr.nil, Sl.nil, Sl.nil, Arr.nil, Arr.nil, Sl.nil, Sl.nil⟩, hc.1⟩
    rw [hc.2, resT_3, gR_bindT q, gR_pure]
    exact HR2.out
  by_cases h5 : k = 5
  · subst h5
    go_wp2_with fail
    refine (rdm_change (i := 27) HR1.out HB1.out rfl rfl rfl rfl rfl HSX.out HSP.out hPX).mono ?_
    rintro e w2 ⟨rfl, hr, hf, c, A1, m1, d1, hb, harr, htie⟩
    have HR2 := Lib.hid hr
    have HB2 := Lib.hid hb
    have HARR := Lib.hid harr
    have HTIE := Lib.hid htie
    have HF2 := Lib.hid (HF1.out.trans hf)
    clear hr hf hb harr htie
    go_wp2_with fail
    first | refine bodyPost_end (results_none rfl _ _ _) rfl ?_ | refine bodyPost_ret (v := .tuple #[]) (results_none rfl _ _ _) rfl ?_
    have hc := res_R (x := { Rp.of 8 with kind := 5, change := c }) HS1.out HVK.out (by rw [resT_5]; exact tie_bindT HTIE.out (tie_pure _ _))
    refine ⟨rfl, ?_, HF2.out, { Rp.of 8 with kind := 5, change := c }, { Trs.z with cg := ⟨A1, m1, d1⟩ }, HB2.out, ⟨Arr.nil, Sl.nil, Arr.nil, Sl.nil, Sl.nil, Arr.nil, HARR.out.mono fun b hb _ => by omega, Sl.nil, Sl.nil⟩, hc.1⟩
    rw [hc.2, resT_5, gR_bindT HTIE.out, gR_pure]
    exact HR2.out
  by_cases h4 : k = 4
  · subst h4
    go_wp2_with fail
    refine (rdm_short (i := 32) HR1.out HB1.out rfl HSX.out HSP.out hPX).mono ?_
    rintro e w2 ⟨rfl, hr, hf, A1, m1, d1, hb, hrow⟩
    have HR2 := Lib.hid hr
    have HB2 := Lib.hid hb
    have HROW := Lib.hid hrow
    have HF2 := Lib.hid (HF1.out.trans hf)
    have hlt2 := hf.size
    clear hr hf hb hrow
    go_wp2_with fail
    refine (m_all (spr_all (i := 33) HR2.out HB2.out rfl HSX.out HSP.out hPX)).mono ?_
    rintro e w3 ⟨rfl, hr, hf, A2, m2, d2, hb, hrow⟩
    have HR3 := Lib.hid hr
    have HB3 := Lib.hid hb
    have HROW2 := Lib.hid hrow
    have HROW1 := Lib.hid (goesSl.keep (HROW.out.mono (S' := fun b => w1.heap.size ≤ b) fun b hb _ => hb) hf.size fun b hb hl => hf.block b hl (by have := HB1.out.lt; have := HR1.out.lt; intro e; rcases e with e | e <;> omega))
    have HF3 := Lib.hid (HF2.out.trans hf)
    clear hr hf hb hrow
    go_wp2_with fail
    first | refine bodyPost_end (results_none rfl _ _ _) rfl ?_ | refine bodyPost_ret (v := .tuple #[]) (results_none rfl _ _ _) rfl ?_
    have q := tie_gV [] getText s1
    have q2 := tie_gV [] allR (gR getText s1)
    have hc := res_R (x := { Rp.of 8 with kind := 4, ident := gV [] getText s1, rest := gV [] allR (gR getText s1) }) HS1.out HVK.out (by rw [resT_4]; exact tie_bindT q (tie_bindT q2 (tie_pure _ _)))
    refine ⟨rfl, ?_, HF3.out, { Rp.of 8 with kind := 4, ident := gV [] getText s1, rest := gV [] allR (gR getText s1) }, { Trs.z with idn := ⟨A1, m1, d1⟩, rs := ⟨A2, m2, d2⟩ }, HB3.out, ⟨Arr.nil, Sl.nil, Arr.nil, Sl.nil, Sl.nil, Arr.nil, Arr.nil, HROW1.out.mono fun b hb _ => by omega, HROW2.out.mono fun b hb _ => by omega⟩, hc.1⟩
    rw [hc.2, resT_4, gR_bindT q, gR_bindT q2, gR_pure]
    exact HR3.out
  by_cases h2 : k = 2
  · subst h2
    go_wp2_with fail
    refine (m_all (spr_all (i := 33) HR1.out HB1.out rfl HSX.out HSP.out hPX)).mono ?_
    rintro e w2 ⟨rfl, hr, hf, A1, m1, d1, hb, hrow⟩
    have HR2 := Lib.hid hr
    have HB2 := Lib.hid hb
    have HROW := Lib.hid hrow
    have HF2 := Lib.hid (HF1.out.trans hf)
    clear hr hf hb hrow
    go_wp2_with fail
    first | refine bodyPost_end (results_none rfl _ _ _) rfl ?_ | refine bodyPost_ret (v := .tuple #[]) (results_none rfl _ _ _) rfl ?_
    have q := tie_gV [] allR s1
    have hc := res_R (x := { Rp.of 8 with kind := 2, rest := gV [] allR s1 }) HS1.out HVK.out (by rw [resT_2]; exact tie_bindT q (tie_pure _ _))
    refine ⟨rfl, ?_, HF2.out, { Rp.of 8 with kind := 2, rest := gV [] allR s1 }, { Trs.z with rs := ⟨A1, m1, d1⟩ }, HB2.out, ⟨Arr.nil, Sl.nil, Arr.nil, Sl.nil, Sl.nil, Arr.nil, Arr.nil, Sl.nil, HROW.out.mono fun b hb _ => by omega⟩, hc.1⟩
    rw [hc.2, resT_2, gR_bindT q, gR_pure]
    exact HR2.out
  have n1 : ((k : Int) == 1) = false := beq_eq_false_iff_ne.2 (by omega)
  have n3 : ((k : Int) == 3) = false := beq_eq_false_iff_ne.2 (by omega)
  have n5 : ((k : Int) == 5) = false := beq_eq_false_iff_ne.2 (by omega)
  have n4 : ((k : Int) == 4) = false := beq_eq_false_iff_ne.2 (by omega)
  have n2 : ((k : Int) == 2) = false := beq_eq_false_iff_ne.2 (by omega)
  have HNO := Lib.hid (resT_no h1 h3 h5 h4 h2)
  clear h1 h3 h5 h4 h2
  go_wp2_with fail
  refine (rdm_must HR1.out HSX.out).mono ?_
  rintro e w2 ⟨rfl, hr, hf⟩
  have HR2 := Lib.hid hr
  have HB2 := Lib.hid (goesBx.keep HB1.out hf.size fun b hb hl => hf.block b hl (by rw [hb]; exact hPX))
  have HF2 := Lib.hid (HF1.out.trans (hf.imp fun b _ h => .inl h))
  clear hr hf
  go_wp2_with fail
  first | refine bodyPost_end (results_none rfl _ _ _) rfl ?_ | refine bodyPost_ret (v := .tuple #[]) (results_none rfl _ _ _) rfl ?_
  have hc := res_R (x := { Rp.of 8 with kind := k }) HS1.out HVK.out (by rw [HNO.out]; exact tie_err _ _ _)
  refine ⟨rfl, ?_, HF2.out, { Rp.of 8 with kind := k }, .z, HB2.out, ⟨Arr.nil, Sl.nil, Arr.nil, Sl.nil, Sl.nil, Arr.nil, Arr.nil, Sl.nil, Sl.nil⟩, hc.1⟩
  rw [hc.2, HNO.out, gR_error]
  exact HR2.out
end Go.Proofs.Sb

/- A walk over reply.stream.parts, reading. Conditions: lengths up to 2^47. (written by gen_stl.py) -/
namespace Sb
theorem prt_0 : partsRp 0 = fun b => bindR (fltR b) fun f b => .ok ({ Rp.of 0 with fault := f }, b) := rfl
theorem prt_2 : partsRp 2 = fun b => .ok (Rp.of 2, b) := rfl
theorem prt_3 : partsRp 3 = fun b => bindR (getText b) fun s b => .ok ({ Rp.of 3 with text := s }, b) := rfl
theorem prt_6 : partsRp 6 = fun b => bindR (getL multiR b) fun l b => .ok ({ Rp.of 6 with support := l }, b) := rfl
theorem prt_8 : partsRp 8 = resR := rfl
theorem prt_12 : partsRp 12 = fun b => bindR (nteR b) fun n b => .ok ({ Rp.of 12 with note := n }, b) := rfl
theorem prt_14 : partsRp 14 = fun b => bindR (getValue b) fun v b => .ok ({ Rp.of 14 with token := v }, b) := rfl
theorem prt_16 : partsRp 16 = fun b => bindR (getValue b) fun v b => .ok ({ Rp.of 16 with token := v }, b) := rfl
theorem prt_no {op : Nat} (h0 : op ≠ 0) (h2 : op ≠ 2) (h3 : op ≠ 3) (h6 : op ≠ 6) (h8 : op ≠ 8) (h12 : op ≠ 12) (h14 : op ≠ 14) (h16 : op ≠ 16) : partsRp op = fun _ => .error 22 := by
  funext b
  unfold partsRp
  rw [if_neg h0, if_neg h2, if_neg h3, if_neg h6, if_neg h8, if_neg h12, if_neg (by omega)]
end Sb
namespace Go.Proofs.Sb
open Go.RowKit _root_.Sb
set_option maxHeartbeats 16000000 in
set_option maxRecDepth 100000 in
theorem rdm_parts {S : Nat → Prop} {w : World} {X P op : Nat} {b0 : B} (h : StR S w X (.ok b0)) (hB : Bx (fun b => b = P) w P (rpZ op)) (hSX : ∀ b, S b → b ≠ X) (hSP : ∀ b, S b → b ≠ P) (hPX : P ≠ X) :
    Calls Tryz.prog 13 #[.pointer (some ⟨X, 0, none⟩), .pointer (some ⟨P, 0, none⟩)] w fun e w' => e = .returned (.tuple #[]) ∧ StR S w' X (gR (partsRp op) (.ok b0)) ∧ Fr (fun b => b = X ∨ b = P) w w' ∧ ∃ x t, Bx (fun b => b = P) w' P (rpT x t) ∧ RpR (fun b => w.heap.size ≤ b) w' x t ∧ Tie (partsRp op) (.ok b0) x := by
  have HST := Lib.hid h
  obtain ⟨A, n, c, hx, h3', h4'⟩ := h
  have HBX := Lib.hid hx; clear hx h3' h4'
  have HA := HST
  have HB := Lib.hid hB; clear hB
  have HSX := Lib.hid hSX; have HSP := Lib.hid hSP; clear hSX hSP
  have c0 := HB.out.c 0 (.int .u8 ((op : Nat) : Int)) rfl
  have k2 := HBX.out.c 2 _ rfl
  have f2 := HBX.out.fr 2
  go_enter Tryz.func13, Tryz.ntmps13
  by_cases h0 : op = 0
  · subst h0
    go_wp2_with fail
    refine (rdm_fault HA.out HB.out HSX.out HSP.out hPX).mono ?_
    rintro e w1 ⟨rfl, hr, hf, f, A1, m1, d1, A2, m2, d2, hb, hrow, hrow2, htie⟩
    have HR1 := Lib.hid hr
    have HB1 := Lib.hid hb
    have HF1 := Lib.hid hf
    have HROW := Lib.hid hrow
    have HROW2 := Lib.hid hrow2
    have HTIE := Lib.hid htie
    clear hr hf hb hrow hrow2 htie
    go_wp2_with fail
    first | refine bodyPost_end (results_none rfl _ _ _) rfl ?_ | refine bodyPost_ret (v := .tuple #[]) (results_none rfl _ _ _) rfl ?_
    have q := HTIE.out
    refine ⟨rfl, ?_, HF1.out, { Rp.of 0 with fault := f }, { Trs.z with fa := ⟨A1, m1, d1⟩, fi := ⟨A2, m2, d2⟩ }, HB1.out, ⟨HROW.out, HROW2.out, Arr.nil, Sl.nil, Sl.nil, Arr.nil, Arr.nil, Sl.nil, Sl.nil⟩, ?_⟩
    · rw [prt_0, gR_bindT q, gR_pure]
      exact HR1.out
    · rw [prt_0]
      exact tie_bindT q (tie_pure _ _)
  by_cases h2 : op = 2
  · subst h2
    go_wp2_with fail
    first | refine bodyPost_end (results_none rfl _ _ _) rfl ?_ | refine bodyPost_ret (v := .tuple #[]) (results_none rfl _ _ _) rfl ?_
    refine ⟨rfl, ?_, Fr.refl _ _, Rp.of 2, .z, HB.out, rp_none, ?_⟩
    · rw [prt_2, gR_pure]
      exact HST.out
    · rw [prt_2]
      exact tie_pure _ _
  by_cases h3 : op = 3
  · subst h3
    go_wp2_with fail
    refine (m_text (spr_text (i := 13) (x0 := []) HA.out HB.out rfl HSX.out HSP.out hPX)).mono ?_
    rintro e w1 ⟨rfl, hr, hf, hb⟩
    have HR1 := Lib.hid hr
    have HB1 := Lib.hid hb
    have HF1 := Lib.hid hf
    clear hr hf hb 
    go_wp2_with fail
    first | refine bodyPost_end (results_none rfl _ _ _) rfl ?_ | refine bodyPost_ret (v := .tuple #[]) (results_none rfl _ _ _) rfl ?_
    have q := tie_gV [] getText (.ok b0)
    refine ⟨rfl, ?_, HF1.out, { Rp.of 3 with text := gV [] getText (.ok b0) }, .z, HB1.out, ⟨Arr.nil, Sl.nil, Arr.nil, Sl.nil, Sl.nil, Arr.nil, Arr.nil, Sl.nil, Sl.nil⟩, ?_⟩
    · rw [prt_3, gR_bindT q, gR_pure]
      exact HR1.out
    · rw [prt_3]
      exact tie_bindT q (tie_pure _ _)
  by_cases h6 : op = 6
  · subst h6
    go_wp2_with fail
    refine (m_multis (spr_multis (i := 14) HA.out HB.out rfl HSX.out HSP.out hPX)).mono ?_
    rintro e w1 ⟨rfl, hr, hf, A1, m1, d1, hb, hrow⟩
    have HR1 := Lib.hid hr
    have HB1 := Lib.hid hb
    have HF1 := Lib.hid hf
    have HROW := Lib.hid hrow
    clear hr hf hb hrow
    go_wp2_with fail
    first | refine bodyPost_end (results_none rfl _ _ _) rfl ?_ | refine bodyPost_ret (v := .tuple #[]) (results_none rfl _ _ _) rfl ?_
    have q := tie_gV [] (getL multiR) (.ok b0)
    refine ⟨rfl, ?_, HF1.out, { Rp.of 6 with support := gV [] (getL multiR) (.ok b0) }, { Trs.z with su := ⟨A1, m1, d1⟩ }, HB1.out, ⟨Arr.nil, Sl.nil, HROW.out, Sl.nil, Sl.nil, Arr.nil, Arr.nil, Sl.nil, Sl.nil⟩, ?_⟩
    · rw [prt_6, gR_bindT q, gR_pure]
      exact HR1.out
    · rw [prt_6]
      exact tie_bindT q (tie_pure _ _)
  by_cases h8 : op = 8
  · subst h8
    go_wp2_with fail
    refine (rdm_result HA.out HB.out HSX.out HSP.out hPX).mono ?_
    rintro e w1 ⟨rfl, hr, hf, x, t, hb, hrow, htie⟩
    have HR1 := Lib.hid hr
    have HB1 := Lib.hid hb
    have HF1 := Lib.hid hf
    have HROW := Lib.hid hrow
    have HTIE := Lib.hid htie
    clear hr hf hb hrow htie
    go_wp2_with fail
    first | refine bodyPost_end (results_none rfl _ _ _) rfl ?_ | refine bodyPost_ret (v := .tuple #[]) (results_none rfl _ _ _) rfl ?_
    have q := HTIE.out
    refine ⟨rfl, ?_, HF1.out, x, t, HB1.out, HROW.out, ?_⟩
    · rw [prt_8]
      exact HR1.out
    · rw [prt_8]
      exact q
  by_cases h12 : op = 12
  · subst h12
    go_wp2_with fail
    refine (rdm_note HA.out HB.out HSX.out HSP.out hPX).mono ?_
    rintro e w1 ⟨rfl, hr, hf, n0, A1, m1, d1, A2, m2, d2, hb, hrow, hrow2, htie⟩
    have HR1 := Lib.hid hr
    have HB1 := Lib.hid hb
    have HF1 := Lib.hid hf
    have HROW := Lib.hid hrow
    have HROW2 := Lib.hid hrow2
    have HTIE := Lib.hid htie
    clear hr hf hb hrow hrow2 htie
    go_wp2_with fail
    first | refine bodyPost_end (results_none rfl _ _ _) rfl ?_ | refine bodyPost_ret (v := .tuple #[]) (results_none rfl _ _ _) rfl ?_
    have q := HTIE.out
    refine ⟨rfl, ?_, HF1.out, { Rp.of 12 with note := n0 }, { Trs.z with ad := ⟨A1, m1, d1⟩, sc := ⟨A2, m2, d2⟩ }, HB1.out, ⟨Arr.nil, Sl.nil, Arr.nil, Sl.nil, HROW.out, HROW2.out, Arr.nil, Sl.nil, Sl.nil⟩, ?_⟩
    · rw [prt_12, gR_bindT q, gR_pure]
      exact HR1.out
    · rw [prt_12]
      exact tie_bindT q (tie_pure _ _)
  by_cases h14 : op = 14
  · subst h14
    go_wp2_with fail
    refine (m_value (spr_value (i := 15) HA.out HB.out rfl rfl HSX.out HSP.out hPX)).mono ?_
    rintro e w1 ⟨rfl, hr, hf, A1, m1, d1, hb, hrow⟩
    have HR1 := Lib.hid hr
    have HB1 := Lib.hid hb
    have HF1 := Lib.hid hf
    have HROW := Lib.hid hrow
    clear hr hf hb hrow
    go_wp2_with fail
    first | refine bodyPost_end (results_none rfl _ _ _) rfl ?_ | refine bodyPost_ret (v := .tuple #[]) (results_none rfl _ _ _) rfl ?_
    have q := tie_gV Val.none getValue (.ok b0)
    refine ⟨rfl, ?_, HF1.out, { Rp.of 14 with token := gV Val.none getValue (.ok b0) }, { Trs.z with tk := ⟨A1, m1, d1⟩ }, HB1.out, ⟨Arr.nil, Sl.nil, Arr.nil, HROW.out, Sl.nil, Arr.nil, Arr.nil, Sl.nil, Sl.nil⟩, ?_⟩
    · rw [prt_14, gR_bindT q, gR_pure]
      exact HR1.out
    · rw [prt_14]
      exact tie_bindT q (tie_pure _ _)
  by_cases h16 : op = 16
  · subst h16
    go_wp2_with fail
    refine (m_value (spr_value (i := 15) HA.out HB.out rfl rfl HSX.out HSP.out hPX)).mono ?_
    rintro e w1 ⟨rfl, hr, hf, A1, m1, d1, hb, hrow⟩
    have HR1 := Lib.hid hr
    have HB1 := Lib.hid hb
    have HF1 := Lib.hid hf
    have HROW := Lib.hid hrow
    clear hr hf hb hrow
    go_wp2_with fail
    first | refine bodyPost_end (results_none rfl _ _ _) rfl ?_ | refine bodyPost_ret (v := .tuple #[]) (results_none rfl _ _ _) rfl ?_
    have q := tie_gV Val.none getValue (.ok b0)
    refine ⟨rfl, ?_, HF1.out, { Rp.of 16 with token := gV Val.none getValue (.ok b0) }, { Trs.z with tk := ⟨A1, m1, d1⟩ }, HB1.out, ⟨Arr.nil, Sl.nil, Arr.nil, HROW.out, Sl.nil, Arr.nil, Arr.nil, Sl.nil, Sl.nil⟩, ?_⟩
    · rw [prt_16, gR_bindT q, gR_pure]
      exact HR1.out
    · rw [prt_16]
      exact tie_bindT q (tie_pure _ _)
  have n0 : ((op : Int) == 0) = false := beq_eq_false_iff_ne.2 (by omega)
  have n2 : ((op : Int) == 2) = false := beq_eq_false_iff_ne.2 (by omega)
  have n3 : ((op : Int) == 3) = false := beq_eq_false_iff_ne.2 (by omega)
  have n6 : ((op : Int) == 6) = false := beq_eq_false_iff_ne.2 (by omega)
  have n8 : ((op : Int) == 8) = false := beq_eq_false_iff_ne.2 (by omega)
  have n12 : ((op : Int) == 12) = false := beq_eq_false_iff_ne.2 (by omega)
  have n14 : ((op : Int) == 14) = false := beq_eq_false_iff_ne.2 (by omega)
  have n16 : ((op : Int) == 16) = false := beq_eq_false_iff_ne.2 (by omega)
  have HNO := Lib.hid (prt_no h0 h2 h3 h6 h8 h12 h14 h16)
  clear h0 h2 h3 h6 h8 h12 h14 h16
  go_wp2_with fail

  first | refine bodyPost_end (results_none rfl _ _ _) rfl ?_ | refine bodyPost_ret (v := .tuple #[]) (results_none rfl _ _ _) rfl ?_
  have hf : Fr (fun b => b = X ∨ b = P) w (w.setCell ⟨X, 2, none⟩ (.int .i64 22)) := Fr.set (S := fun b => b = X ∨ b = P) _ (X := X) (.inl rfl) _
  refine ⟨rfl, ?_, hf, Rp.of op, .z, ?_, rp_none, by rw [HNO.out]; exact tie_err _ _ _⟩
  · rw [HNO.out]
    exact ⟨A, n, c, HBX.out.put 2 _ (by show 2 < 3; decide), fun cu e => (by cases e), fun e he => (by injection he with he; subst he; decide)⟩
  · exact goesBx.keep HB.out (by simp) fun b hb hl => Below.heap_setCell _ ⟨X, 2, none⟩ _ b (by rw [hb]; exact hPX)
end Go.Proofs.Sb

/- A walk over reply.Get. Conditions: the body's length up to 2^47. (written by gen_stm.py) -/
namespace Sb
def rpOf : Except Int Rp → Rp | .ok x => x | .error _ => Rp.none
def erP : Except Int Rp → Int | .ok _ => 0 | .error e => e
theorem gp_err {op : Nat} {b : B} {e : Int} (h : gR (partsRp op) (.ok b) = .error e) : getRp op b = .error e := by
  unfold getRp
  cases hp : partsRp op b with
  | error e2 => rw [gR_err hp] at h; injection h with h; rw [h]
  | ok p => rw [gR_ok hp] at h; cases h
theorem gp_ok {op : Nat} {b cur : B} {x : Rp} (h : gR (partsRp op) (.ok b) = .ok cur) (hc : cur.length = 0) (ht : Tie (partsRp op) (.ok b) x) : getRp op b = .ok x := by
  unfold getRp
  cases hp : partsRp op b with
  | error e2 => rw [gR_err hp] at h; cases h
  | ok p =>
    obtain ⟨y, r⟩ := p
    rw [gR_ok hp] at h
    injection h with h
    have := ht b y r rfl hp
    simp only at h ⊢
    rw [h, if_pos hc, this]
theorem gp_rest {op : Nat} {b cur : B} (h : gR (partsRp op) (.ok b) = .ok cur) (hc : ¬ cur.length = 0) : getRp op b = .error 23 := by
  unfold getRp
  cases hp : partsRp op b with
  | error e2 => rw [gR_err hp] at h; cases h
  | ok p =>
    obtain ⟨y, r⟩ := p
    rw [gR_ok hp] at h
    injection h with h
    simp only at h ⊢
    rw [h, if_neg hc]
end Sb
namespace Go.Proofs.Sb
open Go.RowKit _root_.Sb
theorem gcP {w w' : World} {X : Nat} (hg : w.grownBy w' (some X)) {b o : Nat} {v : Value} (hb : b ≠ X) (hc : w.cell? ⟨b, o, none⟩ = some v) : w'.cell? ⟨b, o, none⟩ = some v :=
  (World.cell?_of_block (hg.block b (World.block_lt_of_cell? w ⟨b, o, none⟩ hc) fun e => hb (by injection e))).trans hc
theorem below_growP {N : Nat} {w w2 w9 : World} {X : Nat} (h : Below N w w2) (g : w2.grownBy w9 (some X)) (hX : N ≤ X) (hz : N ≤ w2.heap.size) : Below N w w9 := Below.trans h ⟨g.os, g.tape, g.output, g.size, fun b hb => g.block b (by omega) (fun e => by injection e with e; omega)⟩
def zeroRp : List Value := [.int .u8 0, .int .u32 0, .string ⟨#[]⟩, .int .u16 0, .int .i32 0, .int .i32 0, .int .i32 0, .int .u8 0, .string ⟨#[]⟩, .string ⟨#[]⟩, .string ⟨#[]⟩, .slice none 0 0, .slice none 0 0, .string ⟨#[]⟩, .slice none 0 0, .int .i64 0, .slice none 0 0, .string ⟨#[]⟩, .string ⟨#[]⟩, .slice none 0 0, .int .u32 0, .string ⟨#[]⟩, .string ⟨#[]⟩, .string ⟨#[]⟩, .string ⟨#[]⟩, .slice none 0 0, .int .u32 0, .string ⟨#[]⟩, .string ⟨#[]⟩, .string ⟨#[]⟩, .string ⟨#[]⟩, .slice none 0 0, .slice none 0 0, .slice none 0 0]
set_option maxHeartbeats 16000000 in
set_option maxRecDepth 100000 in
theorem rGet9_any {S : Nat → Prop} {w : World} {op : Nat} {A : Option Addr} {n c : Nat} {bs : B} (hs : Sl S w A n c bs) (hn : n ≤ 140737488355328) (r : Except Int Rp) (hr : getRp op bs = r) :
    Calls Tryz.prog 10 #[.int .u8 (op : Int), .slice A n c] w fun e w' => ∃ t, e = .returned (.tuple #[.agg (rpT (rpOf r) t).toArray, .int .i64 (erP r)]) ∧ RpR (fun b => w.heap.size ≤ b) w' (rpOf r) t ∧ Below w.heap.size w w' := by
  have HS := Lib.hid hs; clear hs
  have HR := Lib.hid hr; clear hr
  go_enter Tryz.func10, Tryz.ntmps10
  go_wp2_with (first | (refine wpList_built (by rfl) 40 _ (by rfl) #[.int .u8 (op : Int), .int .u32 0, .string ⟨#[]⟩, .int .u16 0, .int .i32 0, .int .i32 0, .int .i32 0, .int .u8 0, .string ⟨#[]⟩, .string ⟨#[]⟩, .string ⟨#[]⟩, .slice none 0 0, .slice none 0 0, .string ⟨#[]⟩, .slice none 0 0, .int .i64 0, .slice none 0 0, .string ⟨#[]⟩, .string ⟨#[]⟩, .slice none 0 0, .int .u32 0, .string ⟨#[]⟩, .string ⟨#[]⟩, .string ⟨#[]⟩, .string ⟨#[]⟩, .slice none 0 0, .int .u32 0, .string ⟨#[]⟩, .string ⟨#[]⟩, .string ⟨#[]⟩, .string ⟨#[]⟩, .slice none 0 0, .slice none 0 0, .slice none 0 0] (by kernel_rfl) ?_) | (refine wpList_store_new (by rfl) 40 _ _ (by rfl) _ _ _ _ (by rfl) (by rfl) (by simp) (by rfl) (by kernel_rfl) (by rfl) (by rfl) ?_; intro w1 hw1; have HW1 := Lib.hid hw1; clear hw1))
  have hw1 := HW1.out
  have b1 : Below w.heap.size w (w.alloc (.cells #[.int .u8 0, .int .u32 0, .string ⟨#[]⟩, .int .u16 0, .int .i32 0, .int .i32 0, .int .i32 0, .int .u8 0, .string ⟨#[]⟩, .string ⟨#[]⟩, .string ⟨#[]⟩, .slice none 0 0, .slice none 0 0, .string ⟨#[]⟩, .slice none 0 0, .int .i64 0, .slice none 0 0, .string ⟨#[]⟩, .string ⟨#[]⟩, .slice none 0 0, .int .u32 0, .string ⟨#[]⟩, .string ⟨#[]⟩, .string ⟨#[]⟩, .string ⟨#[]⟩, .slice none 0 0, .int .u32 0, .string ⟨#[]⟩, .string ⟨#[]⟩, .string ⟨#[]⟩, .string ⟨#[]⟩, .slice none 0 0, .slice none 0 0, .slice none 0 0] 40)) := (Below.refl _ _).alloc (Nat.le_refl _) _
  have b2 : Below ((w.alloc (.cells #[.int .u8 0, .int .u32 0, .string ⟨#[]⟩, .int .u16 0, .int .i32 0, .int .i32 0, .int .i32 0, .int .u8 0, .string ⟨#[]⟩, .string ⟨#[]⟩, .string ⟨#[]⟩, .slice none 0 0, .slice none 0 0, .string ⟨#[]⟩, .slice none 0 0, .int .i64 0, .slice none 0 0, .string ⟨#[]⟩, .string ⟨#[]⟩, .slice none 0 0, .int .u32 0, .string ⟨#[]⟩, .string ⟨#[]⟩, .string ⟨#[]⟩, .string ⟨#[]⟩, .slice none 0 0, .int .u32 0, .string ⟨#[]⟩, .string ⟨#[]⟩, .string ⟨#[]⟩, .string ⟨#[]⟩, .slice none 0 0, .slice none 0 0, .slice none 0 0] 40))).heap.size (w.alloc (.cells #[.int .u8 0, .int .u32 0, .string ⟨#[]⟩, .int .u16 0, .int .i32 0, .int .i32 0, .int .i32 0, .int .u8 0, .string ⟨#[]⟩, .string ⟨#[]⟩, .string ⟨#[]⟩, .slice none 0 0, .slice none 0 0, .string ⟨#[]⟩, .slice none 0 0, .int .i64 0, .slice none 0 0, .string ⟨#[]⟩, .string ⟨#[]⟩, .slice none 0 0, .int .u32 0, .string ⟨#[]⟩, .string ⟨#[]⟩, .string ⟨#[]⟩, .string ⟨#[]⟩, .slice none 0 0, .int .u32 0, .string ⟨#[]⟩, .string ⟨#[]⟩, .string ⟨#[]⟩, .string ⟨#[]⟩, .slice none 0 0, .slice none 0 0, .slice none 0 0] 40)) ((w.alloc (.cells #[.int .u8 0, .int .u32 0, .string ⟨#[]⟩, .int .u16 0, .int .i32 0, .int .i32 0, .int .i32 0, .int .u8 0, .string ⟨#[]⟩, .string ⟨#[]⟩, .string ⟨#[]⟩, .slice none 0 0, .slice none 0 0, .string ⟨#[]⟩, .slice none 0 0, .int .i64 0, .slice none 0 0, .string ⟨#[]⟩, .string ⟨#[]⟩, .slice none 0 0, .int .u32 0, .string ⟨#[]⟩, .string ⟨#[]⟩, .string ⟨#[]⟩, .string ⟨#[]⟩, .slice none 0 0, .int .u32 0, .string ⟨#[]⟩, .string ⟨#[]⟩, .string ⟨#[]⟩, .string ⟨#[]⟩, .slice none 0 0, .slice none 0 0, .slice none 0 0] 40)).alloc (.cells #[.bool false, .slice A n c, .int .i64 0] 68)) := (Below.refl _ _).alloc (Nat.le_refl _) _
  have b3 : Below (((w.alloc (.cells #[.int .u8 0, .int .u32 0, .string ⟨#[]⟩, .int .u16 0, .int .i32 0, .int .i32 0, .int .i32 0, .int .u8 0, .string ⟨#[]⟩, .string ⟨#[]⟩, .string ⟨#[]⟩, .slice none 0 0, .slice none 0 0, .string ⟨#[]⟩, .slice none 0 0, .int .i64 0, .slice none 0 0, .string ⟨#[]⟩, .string ⟨#[]⟩, .slice none 0 0, .int .u32 0, .string ⟨#[]⟩, .string ⟨#[]⟩, .string ⟨#[]⟩, .string ⟨#[]⟩, .slice none 0 0, .int .u32 0, .string ⟨#[]⟩, .string ⟨#[]⟩, .string ⟨#[]⟩, .string ⟨#[]⟩, .slice none 0 0, .slice none 0 0, .slice none 0 0] 40)).alloc (.cells #[.bool false, .slice A n c, .int .i64 0] 68))).heap.size ((w.alloc (.cells #[.int .u8 0, .int .u32 0, .string ⟨#[]⟩, .int .u16 0, .int .i32 0, .int .i32 0, .int .i32 0, .int .u8 0, .string ⟨#[]⟩, .string ⟨#[]⟩, .string ⟨#[]⟩, .slice none 0 0, .slice none 0 0, .string ⟨#[]⟩, .slice none 0 0, .int .i64 0, .slice none 0 0, .string ⟨#[]⟩, .string ⟨#[]⟩, .slice none 0 0, .int .u32 0, .string ⟨#[]⟩, .string ⟨#[]⟩, .string ⟨#[]⟩, .string ⟨#[]⟩, .slice none 0 0, .int .u32 0, .string ⟨#[]⟩, .string ⟨#[]⟩, .string ⟨#[]⟩, .string ⟨#[]⟩, .slice none 0 0, .slice none 0 0, .slice none 0 0] 40)).alloc (.cells #[.bool false, .slice A n c, .int .i64 0] 68)) w1 := by rw [hw1]; exact (Below.refl _ _).alloc (Nat.le_refl _) _
  have hb1 : Below w.heap.size w w1 := seqB b1 (seqB b2 b3)
  have hsz : w1.heap.size = w.heap.size + 3 := by rw [hw1]; simp
  have HBR : Hid (Bx (fun b => b = w.heap.size) w1 w.heap.size zeroRp) := Lib.hid (Bx.after (Bx.after (Bx.alloc w #[.int .u8 0, .int .u32 0, .string ⟨#[]⟩, .int .u16 0, .int .i32 0, .int .i32 0, .int .i32 0, .int .u8 0, .string ⟨#[]⟩, .string ⟨#[]⟩, .string ⟨#[]⟩, .slice none 0 0, .slice none 0 0, .string ⟨#[]⟩, .slice none 0 0, .int .i64 0, .slice none 0 0, .string ⟨#[]⟩, .string ⟨#[]⟩, .slice none 0 0, .int .u32 0, .string ⟨#[]⟩, .string ⟨#[]⟩, .string ⟨#[]⟩, .string ⟨#[]⟩, .slice none 0 0, .int .u32 0, .string ⟨#[]⟩, .string ⟨#[]⟩, .string ⟨#[]⟩, .string ⟨#[]⟩, .slice none 0 0, .slice none 0 0, .slice none 0 0] 40 (S := fun b => b = w.heap.size) rfl rfl) b2) b3)
  have HBX : Hid (Bx (fun b => b = w.heap.size + 1) w1 (w.heap.size + 1) [.bool false, .slice A n c, .int .i64 0]) := Lib.hid (Bx.after (Bx.alloc (w.alloc (.cells #[.int .u8 0, .int .u32 0, .string ⟨#[]⟩, .int .u16 0, .int .i32 0, .int .i32 0, .int .i32 0, .int .u8 0, .string ⟨#[]⟩, .string ⟨#[]⟩, .string ⟨#[]⟩, .slice none 0 0, .slice none 0 0, .string ⟨#[]⟩, .slice none 0 0, .int .i64 0, .slice none 0 0, .string ⟨#[]⟩, .string ⟨#[]⟩, .slice none 0 0, .int .u32 0, .string ⟨#[]⟩, .string ⟨#[]⟩, .string ⟨#[]⟩, .string ⟨#[]⟩, .slice none 0 0, .int .u32 0, .string ⟨#[]⟩, .string ⟨#[]⟩, .string ⟨#[]⟩, .string ⟨#[]⟩, .slice none 0 0, .slice none 0 0, .slice none 0 0] 40)) #[.bool false, .slice A n c, .int .i64 0] 68 (X := w.heap.size + 1) (S := fun b => b = w.heap.size + 1) (by simp) (by simp)) b3)
  have HBP : Hid (Bx (fun b => b = w.heap.size + 1 + 1) w1 (w.heap.size + 1 + 1) (rpZ op)) := Lib.hid (by rw [hw1]; exact Bx.alloc ((w.alloc (.cells #[.int .u8 0, .int .u32 0, .string ⟨#[]⟩, .int .u16 0, .int .i32 0, .int .i32 0, .int .i32 0, .int .u8 0, .string ⟨#[]⟩, .string ⟨#[]⟩, .string ⟨#[]⟩, .slice none 0 0, .slice none 0 0, .string ⟨#[]⟩, .slice none 0 0, .int .i64 0, .slice none 0 0, .string ⟨#[]⟩, .string ⟨#[]⟩, .slice none 0 0, .int .u32 0, .string ⟨#[]⟩, .string ⟨#[]⟩, .string ⟨#[]⟩, .string ⟨#[]⟩, .slice none 0 0, .int .u32 0, .string ⟨#[]⟩, .string ⟨#[]⟩, .string ⟨#[]⟩, .string ⟨#[]⟩, .slice none 0 0, .slice none 0 0, .slice none 0 0] 40)).alloc (.cells #[.bool false, .slice A n c, .int .i64 0] 68)) #[.int .u8 (op : Int), .int .u32 0, .string ⟨#[]⟩, .int .u16 0, .int .i32 0, .int .i32 0, .int .i32 0, .int .u8 0, .string ⟨#[]⟩, .string ⟨#[]⟩, .string ⟨#[]⟩, .slice none 0 0, .slice none 0 0, .string ⟨#[]⟩, .slice none 0 0, .int .i64 0, .slice none 0 0, .string ⟨#[]⟩, .string ⟨#[]⟩, .slice none 0 0, .int .u32 0, .string ⟨#[]⟩, .string ⟨#[]⟩, .string ⟨#[]⟩, .string ⟨#[]⟩, .slice none 0 0, .int .u32 0, .string ⟨#[]⟩, .string ⟨#[]⟩, .string ⟨#[]⟩, .string ⟨#[]⟩, .slice none 0 0, .slice none 0 0, .slice none 0 0] 40 (X := w.heap.size + 1 + 1) (S := fun b => b = w.heap.size + 1 + 1) (by simp) (by simp))
  clear b1 b2 b3 hw1
  have HST : Hid (StR (fun b => S b ∧ b < w.heap.size) w1 (w.heap.size + 1) (.ok bs)) := Lib.hid ⟨A, n, c, HBX.out, fun cur e => by injection e with e; subst e; exact ⟨((HS.out.mono (S' := fun b => S b ∧ b < w.heap.size) fun b h1 h2 => ⟨h1, h2⟩)).after hb1, hn⟩, fun e h => by cases h⟩
  have HSZ := Lib.hid hsz; have HB1 := Lib.hid hb1; clear hsz hb1 HW1
  refine (rdm_parts (op := op) HST.out HBP.out (fun b h => by have := h.2; omega) (fun b h => by have := h.2; omega) (by omega)).mono ?_
  rintro e w2 ⟨rfl, hr, hf, x, t, hb, hrow, htie⟩
  have HST2 := Lib.hid hr; have HF := Lib.hid hf; have HBP2 := Lib.hid hb; have HROW := Lib.hid hrow; have HTIE := Lib.hid htie
  clear hb hrow htie hf
  have HBR2 := Lib.hid (goesBx.keep HBR.out HF.out.size fun b hb hl => HF.out.block b hl (by rw [hb]; omega))
  obtain ⟨s1, hs1⟩ : ∃ s1, gR (partsRp op) (.ok bs) = s1 := ⟨_, rfl⟩
  rw [hs1] at hr
  have HS1 := Lib.hid hs1; clear hs1
  obtain ⟨A2, n2, c2, hx, h3, h4⟩ := hr
  have k1 := hx.c 1 _ rfl
  have k2 := hx.c 2 _ rfl
  clear hx
  have h3c := fun cur e => (h3 cur e).1.len
  clear h3
  have q2 := HBP2.out.lt
  have q3 := HBR2.out.lt
  have q4 := HST2.out.lt
  have HFW : Hid (Below w.heap.size w w2) := Lib.hid (Below.trans HB1.out (HF.out.below (N := w.heap.size) (by have := HB1.out.size; omega) fun b hb h => by rcases h with h | h <;> omega))
  cases s1 with
  | error e =>
    have hne : (e != 0) = true := bne_iff_ne.2 (h4 e rfl)
    have HN := Lib.hid (gp_err HS1.out)
    simp only [werr_error] at k2
    clear h4 h3c
    have HFD : Hid (Below w.heap.size w w2.drew) := Lib.hid (Below.trans HFW.out ((Below.refl _ w2).drew))
    go_upto_region 5 with fail
    refine regt_start (by kernel_rfl) ?_
    (refine regt_take 0 (v := ?_) (by rfl) (by kernel_rfl) (by kernel_rfl) (by kernel_rfl) (by exact fun _ _ _ h => h) (by rfl) ?_ ?_; rotate_left; focus (intro w hSw; go_simp; try with_reducible rfl))
    simp only [Act.put, List.setIfInBounds_toArray, List.set_cons_zero, List.set_cons_succ]
    (refine regt_take 1 (v := ?_) (by rfl) (by kernel_rfl) (by kernel_rfl) (by kernel_rfl) (by exact fun _ _ _ h => h) (by rfl) ?_ ?_; rotate_left; focus (intro w hSw; go_simp; try with_reducible rfl))
    simp only [Act.put, List.setIfInBounds_toArray, List.set_cons_zero, List.set_cons_succ]
    (refine regt_take 2 (v := ?_) (by rfl) (by kernel_rfl) (by kernel_rfl) (by kernel_rfl) (by exact fun _ _ _ h => h) (by rfl) ?_ ?_; rotate_left; focus (intro w hSw; go_simp; try with_reducible rfl))
    simp only [Act.put, List.setIfInBounds_toArray, List.set_cons_zero, List.set_cons_succ]
    (refine regt_take 3 (v := ?_) (by rfl) (by kernel_rfl) (by kernel_rfl) (by kernel_rfl) (by exact fun _ _ _ h => h) (by rfl) ?_ ?_; rotate_left; focus (intro w hSw; go_simp; try with_reducible rfl))
    simp only [Act.put, List.setIfInBounds_toArray, List.set_cons_zero, List.set_cons_succ]
    refine regt_two 4 5 (by kernel_rfl) (by rfl) (by rfl) (fun K hK => ?_) (fun K hK => ?_)
    focus
      go_simp
      refine hK.out _ _ (trivial) ?_
      clear hK K
      try simp only [Act.put, List.setIfInBounds_toArray, List.set_cons_zero, List.set_cons_succ]
      refine regt_call 5 (by kernel_rfl) (by rfl) (fun K hK => ?_)
      refine step_storeB (Bx.after HBR2.out (Below.refl _ w2).drew) (by rfl) 40 _ _ (by rfl) 0 zeroRp (by rfl) (by rfl) (by kernel_rfl) (by show 0 + 34 ≤ 34; decide) (by rfl) ?_; intro w9 hb9 hg9; have x9 := gcP hg9 (by omega) (kcell (Below.refl _ w2).drew k2); have HB9 := Lib.hid hb9; have HG9 := Lib.hid hg9; clear hb9 hg9
      refine hK.out _ _ (trivial) ?_
      clear hK K
      try simp only [Act.put, List.setIfInBounds_toArray, List.set_cons_zero, List.set_cons_succ]
      (refine regt_take 6 (v := ?_) (by rfl) (by kernel_rfl) (by kernel_rfl) (by kernel_rfl) (by exact fun _ _ _ h => h) (by rfl) ?_ ?_; rotate_left; focus (intro w hSw; go_simp; try with_reducible rfl))
      simp only [Act.put, List.setIfInBounds_toArray, List.set_cons_zero, List.set_cons_succ]
      refine wpAnyH_done (by kernel_rfl) ?_ _
    rotate_left 1
    focus
      refine step_storeB (Bx.after HBR2.out (Below.refl _ w2).drew) (by rfl) 40 _ _ (by rfl) 0 zeroRp (by rfl) (by rfl) (by kernel_rfl) (by show 0 + 34 ≤ 34; decide) (by rfl) ?_; intro w9 hb9 hg9; have x9 := gcP hg9 (by omega) (kcell (Below.refl _ w2).drew k2); have HB9 := Lib.hid hb9; have HG9 := Lib.hid hg9; clear hb9 hg9
      refine hK.out _ _ (trivial) ?_
      clear hK K
      try simp only [Act.put, List.setIfInBounds_toArray, List.set_cons_zero, List.set_cons_succ]
      refine regt_call 4 (by kernel_rfl) (by rfl) (fun K hK => ?_)
      go_simp
      refine hK.out _ _ (trivial) ?_
      clear hK K
      try simp only [Act.put, List.setIfInBounds_toArray, List.set_cons_zero, List.set_cons_succ]
      (refine regt_take 6 (v := ?_) (by rfl) (by kernel_rfl) (by kernel_rfl) (by kernel_rfl) (by exact fun _ _ _ h => h) (by rfl) ?_ ?_; rotate_left; focus (intro w hSw; go_simp; try with_reducible rfl))
      simp only [Act.put, List.setIfInBounds_toArray, List.set_cons_zero, List.set_cons_succ]
      refine wpAnyH_done (by kernel_rfl) ?_ _
    all_goals
      go_wp2_with fail
      refine bodyPost_ret (results_box (vs := zeroRp) rfl HB9.out (by rfl) (by rfl) _ Tryz.underlying40 rfl (by kernel_rfl)) rfl ?_
      obtain rfl := HN.out.symm.trans HR.out
      exact ⟨.z, rfl, rp_none (op := 0), below_growP HFD.out HG9.out (by omega) HFD.out.size⟩
  | ok cur =>
    have hlen : n2 = cur.length := h3c cur rfl
    simp only [werr_ok] at k2
    clear h4 h3c
    by_cases hc : cur.length = 0
    · obtain rfl : n2 = 0 := by omega
      have HN := Lib.hid (gp_ok HS1.out hc HTIE.out)
      clear hc hlen
      go_wp2_with (first | (refine wpList_loadB HBP2.out (by rfl) 40 _ (by rfl) (by rfl) _ Tryz.underlying40 rfl (by kernel_rfl) ?_) | (refine wpList_storeB HBR2.out (by rfl) 40 _ _ (by rfl) 0 (rpT x t) (by rfl) (by rfl) (by kernel_rfl) (by show 0 + 34 ≤ 34; decide) (by rfl) ?_; intro w9 hb9 hg9; have HB9 := Lib.hid hb9; have HG9 := Lib.hid hg9; clear hb9 hg9))
      refine bodyPost_ret (results_box (vs := rpT x t) rfl HB9.out (by rfl) (by rfl) _ Tryz.underlying40 rfl (by kernel_rfl)) rfl ?_
      obtain rfl := HN.out.symm.trans HR.out
      have hz9 := HG9.out.size
      refine ⟨t, rfl, goesRp.keep (goesRp.mono HROW.out (S' := fun b => w.heap.size ≤ b ∧ b ≠ w.heap.size) fun b hb _ => by have := HSZ.out; omega) HG9.out.size (fun b hb hl => HG9.out.block b hl (fun e => hb.2 (by injection e))) |> fun h => goesRp.mono h fun b hb _ => hb.1, below_growP HFW.out HG9.out (by omega) HFW.out.size⟩
    · have hn2 : (0 : Int) < (n2 : Int) := by omega
      have hn3 : decide ((0 : Int) < (n2 : Int)) = true := decide_eq_true hn2
      have HN := Lib.hid (gp_rest HS1.out hc)
      clear hc
      go_wp2_with (first | (refine wpList_built (by rfl) 40 _ (by rfl) #[.int .u8 0, .int .u32 0, .string ⟨#[]⟩, .int .u16 0, .int .i32 0, .int .i32 0, .int .i32 0, .int .u8 0, .string ⟨#[]⟩, .string ⟨#[]⟩, .string ⟨#[]⟩, .slice none 0 0, .slice none 0 0, .string ⟨#[]⟩, .slice none 0 0, .int .i64 0, .slice none 0 0, .string ⟨#[]⟩, .string ⟨#[]⟩, .slice none 0 0, .int .u32 0, .string ⟨#[]⟩, .string ⟨#[]⟩, .string ⟨#[]⟩, .string ⟨#[]⟩, .slice none 0 0, .int .u32 0, .string ⟨#[]⟩, .string ⟨#[]⟩, .string ⟨#[]⟩, .string ⟨#[]⟩, .slice none 0 0, .slice none 0 0, .slice none 0 0] (by kernel_rfl) ?_) | (refine wpList_storeB HBR2.out (by rfl) 40 _ _ (by rfl) 0 zeroRp (by rfl) (by rfl) (by kernel_rfl) (by show 0 + 34 ≤ 34; decide) (by rfl) ?_; intro w9 hb9 hg9; have HB9 := Lib.hid hb9; have HG9 := Lib.hid hg9; clear hb9 hg9))
      refine bodyPost_ret (results_box (vs := zeroRp) rfl HB9.out (by rfl) (by rfl) _ Tryz.underlying40 rfl (by kernel_rfl)) rfl ?_
      obtain rfl := HN.out.symm.trans HR.out
      exact ⟨.z, rfl, rp_none (op := 0), below_growP HFW.out HG9.out (by omega) HFW.out.size⟩
end Go.Proofs.Sb
