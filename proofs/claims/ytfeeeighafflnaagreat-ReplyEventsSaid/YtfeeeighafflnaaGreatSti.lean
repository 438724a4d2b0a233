/- A reply's cells; walks over reply.stream.fault, reading. Conditions: lengths up to 2^47. (written by gen_sti.py) -/
import Derived.Test.YtfeeeighafflnaaGreatStg
set_option linter.unusedVariables false
set_option linter.unusedSimpArgs false
namespace Sb
theorem flt_R {s s1 s2 : Wr} {c : Nat} {t : B} {f : Flt} (h1 : gR (getN 4) s = s1) (hc : gV 0 (getN 4) s = c) (h2 : gR getText s1 = s2) (ht : gV [] getText s1 = t) (hp : Tie (fltTR c t) s2 f) :
    Tie fltR s f ∧ gR fltR s = gR (fltTR c t) s2 := by
  have t1 : Tie (getN 4) s c := hc ▸ tie_gV 0 (getN 4) s
  have t2 : Tie getText s1 t := ht ▸ tie_gV [] getText s1
  have e : fltR = fun b => bindR (getN 4 b) fun c b => bindR (getText b) fun t b => fltTR c t b := rfl
  rw [e]
  refine ⟨tie_bindT t1 ?_, ?_⟩
  · rw [h1]
    refine tie_bindT t2 ?_
    rw [h2]
    exact hp
  · rw [gR_bindT t1, h1, gR_bindT t2, h2]
theorem flt_4096 (t : B) : fltTR 4096 t = fun b => bindR (getCons b) fun x0 b => bindR (getNum b) fun x1 b => bindR (getNum b) fun x2 b => .ok ({ Flt.of 4096 t with level := x0, needed := x1, received := x2 }, b) := rfl
theorem flt_4352 (t : B) : fltTR 4352 t = fun b => bindR (getCons b) fun x0 b => bindR (getNum b) fun x1 b => bindR (getNum b) fun x2 b => bindR (getText b) fun x3 b => .ok ({ Flt.of 4352 t with level := x0, received := x1, needed := x2, write := x3 }, b) := rfl
theorem flt_4608 (t : B) : fltTR 4608 t = fun b => bindR (getCons b) fun x0 b => bindR (getNum b) fun x1 b => bindR (getNum b) fun x2 b => bindR (getN 1 b) fun x3 b => .ok ({ Flt.of 4608 t with level := x0, received := x1, needed := x2, data := x3 }, b) := rfl
theorem flt_4864 (t : B) : fltTR 4864 t = fun b => bindR (getCons b) fun x0 b => bindR (getNum b) fun x1 b => bindR (getNum b) fun x2 b => bindR (getNum b) fun x3 b => bindR (getN 1 b) fun x4 b => .ok ({ Flt.of 4864 t with level := x0, received := x1, needed := x2, failures := x3, data := x4 }, b) := rfl
theorem flt_5376 (t : B) : fltTR 5376 t = fun b => bindR (getCons b) fun x0 b => bindR (getNum b) fun x1 b => bindR (getNum b) fun x2 b => bindR (getNum b) fun x3 b => bindR (getText b) fun x4 b => .ok ({ Flt.of 5376 t with level := x0, received := x1, needed := x2, failures := x3, write := x4 }, b) := rfl
theorem flt_5120 (t : B) : fltTR 5120 t = fun b => bindR (getText b) fun x0 b => bindR (getText b) fun x1 b => bindR (getTexts b) fun x2 b => .ok ({ Flt.of 5120 t with space := x0, name := x1, args := x2 }, b) := rfl
theorem flt_9216 (t : B) : fltTR 9216 t = fun b => bindR (getText b) fun x0 b => bindR (getText b) fun x1 b => .ok ({ Flt.of 9216 t with space := x0, name := x1 }, b) := rfl
theorem flt_9472 (t : B) : fltTR 9472 t = fun b => bindR (getText b) fun x0 b => .ok ({ Flt.of 9472 t with ident := x0 }, b) := rfl
theorem flt_no {c : Nat} {t : B} (h : c ≠ 4096 ∧ c ≠ 4352 ∧ c ≠ 4608 ∧ c ≠ 4864 ∧ c ≠ 5376 ∧ c ≠ 5120 ∧ c ≠ 9216 ∧ c ≠ 9472) : fltTR c t = fun b => .ok (Flt.of c t, b) := by
  funext b
  obtain ⟨h4096, h4352, h4608, h4864, h5376, h5120, h9216, h9472⟩ := h
  unfold fltTR
  simp only [h4096, h4352, h4608, h4864, h5376, h5120, h9216, h9472, if_false]
end Sb
namespace Go.Proofs.Sb
open Go.RowKit _root_.Sb
/-- a reply's cells; the rows' values apart -/
def rpV (r : Rp) (fa fi su tk ad sc cg idn rs : Value) : List Value :=
  [.int .u8 ((r.opcode : Nat) : Int), .int .u32 ((r.fault.code : Nat) : Int), .string (str r.fault.text), .int .u16 ((r.fault.level : Nat) : Int), .int .i32 r.fault.received, .int .i32 r.fault.needed, .int .i32 r.fault.failures, .int .u8 ((r.fault.data : Nat) : Int), .string (str r.fault.write), .string (str r.fault.space), .string (str r.fault.name), fa, fi,
   .string (str r.text), su, .int .i64 r.token.kind, tk, .string (str r.note.kind), .string (str r.note.what), ad, .int .u32 ((r.note.addr.port : Nat) : Int), .string (str r.note.schema.what), .string (str r.note.schema.target), .string (str r.note.schema.space), .string (str r.note.schema.name), sc,
   .int .u32 ((r.kind : Nat) : Int), .string (str r.change.what), .string (str r.change.target), .string (str r.change.space), .string (str r.change.name), cg, idn, rs]
abbrev zS : Value := .slice none 0 0
def rpZ (op : Nat) : List Value := rpV (Rp.of op) zS zS zS zS zS zS zS zS zS
set_option maxHeartbeats 16000000 in
set_option maxRecDepth 100000 in
theorem rdm_fault {S : Nat → Prop} {w : World} {X P op : Nat} {s : Wr} (h : StR S w X s) (hB : Bx (fun b => b = P) w P (rpZ op)) (hSX : ∀ b, S b → b ≠ X) (hSP : ∀ b, S b → b ≠ P) (hPX : P ≠ X) :
    Calls Tryz.prog 21 #[.pointer (some ⟨X, 0, none⟩), .pointer (some ⟨P, 1, none⟩)] w fun e w' => e = .returned (.tuple #[]) ∧ StR S w' X (gR fltR s) ∧ Fr (fun b => b = X ∨ b = P) w w' ∧ ∃ f A1 n1 c1 A2 n2 c2, Bx (fun b => b = P) w' P (rpV { Rp.of op with fault := f } (.slice A1 n1 c1) (.slice A2 n2 c2) zS zS zS zS zS zS zS) ∧ Arr 1 strP (fun b => w.heap.size ≤ b) w' A1 n1 c1 f.args ∧ Sl (fun b => w.heap.size ≤ b) w' A2 n2 c2 f.ident ∧ Tie fltR s f := by
  have HA := Lib.hid h; clear h
  have HB := Lib.hid hB; clear hB
  have HSX := Lib.hid hSX; have HSP := Lib.hid hSP; clear hSX hSP
  go_enter Tryz.func21, Tryz.ntmps21
  go_wp2_with fail
  refine (m_code (spr_code (i := 1) (x0 := 0) HA.out HB.out rfl HSX.out HSP.out hPX)).mono ?_
  rintro e w1 ⟨rfl, hr, hf, hb⟩
  have HR1 := Lib.hid hr
  have HB1 := Lib.hid hb
  have HF1 := Lib.hid hf
  clear hr hf hb
  obtain ⟨s1, hs1⟩ : ∃ s1, gR (getN 4) s = s1 := ⟨_, rfl⟩
  obtain ⟨c, hc⟩ : ∃ c, gV 0 (getN 4) s = c := ⟨_, rfl⟩
  rw [hs1] at HR1
  rw [hc] at HB1
  have HS1 := Lib.hid hs1; have HVC := Lib.hid hc; clear hs1 hc
  go_wp2_with fail
  refine (m_text (spr_text (i := 2) (x0 := []) HR1.out HB1.out rfl HSX.out HSP.out hPX)).mono ?_
  rintro e w2 ⟨rfl, hr, hf, hb⟩
  have HR2 := Lib.hid hr
  have HB2 := Lib.hid hb
  have HF2 := Lib.hid (HF1.out.trans hf)
  clear hr hf hb
  obtain ⟨s2, hs2⟩ : ∃ s2, gR getText s1 = s2 := ⟨_, rfl⟩
  obtain ⟨t, ht⟩ : ∃ t, gV [] getText s1 = t := ⟨_, rfl⟩
  rw [hs2] at HR2
  rw [ht] at HB2
  have HS2 := Lib.hid hs2; have HVT := Lib.hid ht; clear hs2 ht
  have c1 := HB2.out.c 1 _ rfl
  by_cases h4096 : c = 4096
  · subst h4096
    go_wp2_with fail
    refine (m_level (spr_level (i := 3) (x0 := 0) HR2.out HB2.out rfl HSX.out HSP.out hPX)).mono ?_
    rintro e w3 ⟨rfl, hr, hf, hb⟩
    have HR3 := Lib.hid hr
    have HB3 := Lib.hid hb
    have HF3 := Lib.hid (HF2.out.trans hf)
    clear hr hf hb
    go_wp2_with fail
    refine (rdm_number (i := 5) HR3.out HB3.out rfl HSX.out HSP.out hPX).mono ?_
    rintro e w4 ⟨rfl, hr, hf, hb⟩
    have HR4 := Lib.hid hr
    have HB4 := Lib.hid hb
    have HF4 := Lib.hid (HF3.out.trans hf)
    clear hr hf hb
    go_wp2_with fail
    refine (rdm_number (i := 4) HR4.out HB4.out rfl HSX.out HSP.out hPX).mono ?_
    rintro e w5 ⟨rfl, hr, hf, hb⟩
    have HR5 := Lib.hid hr
    have HB5 := Lib.hid hb
    have HF5 := Lib.hid (HF4.out.trans hf)
    clear hr hf hb
    go_wp2_with fail
    refine bodyPost_end (results_none rfl _ _ _) rfl ?_
    have q0 := tie_gV 0 getCons (s2)
    have q1 := tie_gV 0 getNum (gR getCons (s2))
    have q2 := tie_gV 0 getNum (gR getNum (gR getCons (s2)))
    have hc := flt_R (f := { Flt.of 4096 t with level := gV 0 getCons (s2), needed := gV 0 getNum (gR getCons (s2)), received := gV 0 getNum (gR getNum (gR getCons (s2))) }) HS1.out HVC.out HS2.out HVT.out (by rw [flt_4096]; exact tie_bindT q0 (tie_bindT q1 (tie_bindT q2 (tie_pure _ _))))
    refine ⟨rfl, ?_, HF5.out, { Flt.of 4096 t with level := gV 0 getCons (s2), needed := gV 0 getNum (gR getCons (s2)), received := gV 0 getNum (gR getNum (gR getCons (s2))) }, none, 0, 0, none, 0, 0, HB5.out, Arr.nil, Sl.nil, hc.1⟩
    rw [hc.2, flt_4096, gR_bindT q0, gR_bindT q1, gR_bindT q2, gR_pure]
    exact HR5.out
  by_cases h4352 : c = 4352
  · subst h4352
    go_wp2_with fail
    refine (rdm_counts (i := 1) HR2.out HB2.out rfl rfl rfl HSX.out HSP.out hPX).mono ?_
    rintro e w3 ⟨rfl, hr, hf, hb⟩
    have HR3 := Lib.hid hr
    have HB3 := Lib.hid hb
    have HF3 := Lib.hid (HF2.out.trans hf)
    clear hr hf hb
    go_wp2_with fail
    refine (m_text (spr_text (i := 8) (x0 := []) HR3.out HB3.out rfl HSX.out HSP.out hPX)).mono ?_
    rintro e w4 ⟨rfl, hr, hf, hb⟩
    have HR4 := Lib.hid hr
    have HB4 := Lib.hid hb
    have HF4 := Lib.hid (HF3.out.trans hf)
    clear hr hf hb
    go_wp2_with fail
    refine bodyPost_end (results_none rfl _ _ _) rfl ?_
    have q0 := tie_gV 0 getCons (s2)
    have q1 := tie_gV 0 getNum (gR getCons (s2))
    have q2 := tie_gV 0 getNum (gR getNum (gR getCons (s2)))
    have q3 := tie_gV [] getText (gR getNum (gR getNum (gR getCons (s2))))
    have hc := flt_R (f := { Flt.of 4352 t with level := gV 0 getCons (s2), received := gV 0 getNum (gR getCons (s2)), needed := gV 0 getNum (gR getNum (gR getCons (s2))), write := gV [] getText (gR getNum (gR getNum (gR getCons (s2)))) }) HS1.out HVC.out HS2.out HVT.out (by rw [flt_4352]; exact tie_bindT q0 (tie_bindT q1 (tie_bindT q2 (tie_bindT q3 (tie_pure _ _)))))
    refine ⟨rfl, ?_, HF4.out, { Flt.of 4352 t with level := gV 0 getCons (s2), received := gV 0 getNum (gR getCons (s2)), needed := gV 0 getNum (gR getNum (gR getCons (s2))), write := gV [] getText (gR getNum (gR getNum (gR getCons (s2)))) }, none, 0, 0, none, 0, 0, HB4.out, Arr.nil, Sl.nil, hc.1⟩
    rw [hc.2, flt_4352, gR_bindT q0, gR_bindT q1, gR_bindT q2, gR_bindT q3, gR_pure]
    exact HR4.out
  by_cases h4608 : c = 4608
  · subst h4608
    go_wp2_with fail
    refine (rdm_counts (i := 1) HR2.out HB2.out rfl rfl rfl HSX.out HSP.out hPX).mono ?_
    rintro e w3 ⟨rfl, hr, hf, hb⟩
    have HR3 := Lib.hid hr
    have HB3 := Lib.hid hb
    have HF3 := Lib.hid (HF2.out.trans hf)
    clear hr hf hb
    go_wp2_with fail
    refine (m_octet (spr_octet (i := 7) (x0 := 0) HR3.out HB3.out rfl HSX.out HSP.out hPX)).mono ?_
    rintro e w4 ⟨rfl, hr, hf, hb⟩
    have HR4 := Lib.hid hr
    have HB4 := Lib.hid hb
    have HF4 := Lib.hid (HF3.out.trans hf)
    clear hr hf hb
    go_wp2_with fail
    refine bodyPost_end (results_none rfl _ _ _) rfl ?_
    have q0 := tie_gV 0 getCons (s2)
    have q1 := tie_gV 0 getNum (gR getCons (s2))
    have q2 := tie_gV 0 getNum (gR getNum (gR getCons (s2)))
    have q3 := tie_gV 0 (getN 1) (gR getNum (gR getNum (gR getCons (s2))))
    have hc := flt_R (f := { Flt.of 4608 t with level := gV 0 getCons (s2), received := gV 0 getNum (gR getCons (s2)), needed := gV 0 getNum (gR getNum (gR getCons (s2))), data := gV 0 (getN 1) (gR getNum (gR getNum (gR getCons (s2)))) }) HS1.out HVC.out HS2.out HVT.out (by rw [flt_4608]; exact tie_bindT q0 (tie_bindT q1 (tie_bindT q2 (tie_bindT q3 (tie_pure _ _)))))
    refine ⟨rfl, ?_, HF4.out, { Flt.of 4608 t with level := gV 0 getCons (s2), received := gV 0 getNum (gR getCons (s2)), needed := gV 0 getNum (gR getNum (gR getCons (s2))), data := gV 0 (getN 1) (gR getNum (gR getNum (gR getCons (s2)))) }, none, 0, 0, none, 0, 0, HB4.out, Arr.nil, Sl.nil, hc.1⟩
    rw [hc.2, flt_4608, gR_bindT q0, gR_bindT q1, gR_bindT q2, gR_bindT q3, gR_pure]
    exact HR4.out
  by_cases h4864 : c = 4864
  · subst h4864
    go_wp2_with fail
    refine (rdm_counts (i := 1) HR2.out HB2.out rfl rfl rfl HSX.out HSP.out hPX).mono ?_
    rintro e w3 ⟨rfl, hr, hf, hb⟩
    have HR3 := Lib.hid hr
    have HB3 := Lib.hid hb
    have HF3 := Lib.hid (HF2.out.trans hf)
    clear hr hf hb
    go_wp2_with fail
    refine (rdm_number (i := 6) HR3.out HB3.out rfl HSX.out HSP.out hPX).mono ?_
    rintro e w4 ⟨rfl, hr, hf, hb⟩
    have HR4 := Lib.hid hr
    have HB4 := Lib.hid hb
    have HF4 := Lib.hid (HF3.out.trans hf)
    clear hr hf hb
    go_wp2_with fail
    refine (m_octet (spr_octet (i := 7) (x0 := 0) HR4.out HB4.out rfl HSX.out HSP.out hPX)).mono ?_
    rintro e w5 ⟨rfl, hr, hf, hb⟩
    have HR5 := Lib.hid hr
    have HB5 := Lib.hid hb
    have HF5 := Lib.hid (HF4.out.trans hf)
    clear hr hf hb
    go_wp2_with fail
    refine bodyPost_end (results_none rfl _ _ _) rfl ?_
    have q0 := tie_gV 0 getCons (s2)
    have q1 := tie_gV 0 getNum (gR getCons (s2))
    have q2 := tie_gV 0 getNum (gR getNum (gR getCons (s2)))
    have q3 := tie_gV 0 getNum (gR getNum (gR getNum (gR getCons (s2))))
    have q4 := tie_gV 0 (getN 1) (gR getNum (gR getNum (gR getNum (gR getCons (s2)))))
    have hc := flt_R (f := { Flt.of 4864 t with level := gV 0 getCons (s2), received := gV 0 getNum (gR getCons (s2)), needed := gV 0 getNum (gR getNum (gR getCons (s2))), failures := gV 0 getNum (gR getNum (gR getNum (gR getCons (s2)))), data := gV 0 (getN 1) (gR getNum (gR getNum (gR getNum (gR getCons (s2))))) }) HS1.out HVC.out HS2.out HVT.out (by rw [flt_4864]; exact tie_bindT q0 (tie_bindT q1 (tie_bindT q2 (tie_bindT q3 (tie_bindT q4 (tie_pure _ _))))))
    refine ⟨rfl, ?_, HF5.out, { Flt.of 4864 t with level := gV 0 getCons (s2), received := gV 0 getNum (gR getCons (s2)), needed := gV 0 getNum (gR getNum (gR getCons (s2))), failures := gV 0 getNum (gR getNum (gR getNum (gR getCons (s2)))), data := gV 0 (getN 1) (gR getNum (gR getNum (gR getNum (gR getCons (s2))))) }, none, 0, 0, none, 0, 0, HB5.out, Arr.nil, Sl.nil, hc.1⟩
    rw [hc.2, flt_4864, gR_bindT q0, gR_bindT q1, gR_bindT q2, gR_bindT q3, gR_bindT q4, gR_pure]
    exact HR5.out
  by_cases h5376 : c = 5376
  · subst h5376
    go_wp2_with fail
    refine (rdm_counts (i := 1) HR2.out HB2.out rfl rfl rfl HSX.out HSP.out hPX).mono ?_
    rintro e w3 ⟨rfl, hr, hf, hb⟩
    have HR3 := Lib.hid hr
    have HB3 := Lib.hid hb
    have HF3 := Lib.hid (HF2.out.trans hf)
    clear hr hf hb
    go_wp2_with fail
    refine (rdm_number (i := 6) HR3.out HB3.out rfl HSX.out HSP.out hPX).mono ?_
    rintro e w4 ⟨rfl, hr, hf, hb⟩
    have HR4 := Lib.hid hr
    have HB4 := Lib.hid hb
    have HF4 := Lib.hid (HF3.out.trans hf)
    clear hr hf hb
    go_wp2_with fail
    refine (m_text (spr_text (i := 8) (x0 := []) HR4.out HB4.out rfl HSX.out HSP.out hPX)).mono ?_
    rintro e w5 ⟨rfl, hr, hf, hb⟩
    have HR5 := Lib.hid hr
    have HB5 := Lib.hid hb
    have HF5 := Lib.hid (HF4.out.trans hf)
    clear hr hf hb
    go_wp2_with fail
    refine bodyPost_end (results_none rfl _ _ _) rfl ?_
    have q0 := tie_gV 0 getCons (s2)
    have q1 := tie_gV 0 getNum (gR getCons (s2))
    have q2 := tie_gV 0 getNum (gR getNum (gR getCons (s2)))
    have q3 := tie_gV 0 getNum (gR getNum (gR getNum (gR getCons (s2))))
    have q4 := tie_gV [] getText (gR getNum (gR getNum (gR getNum (gR getCons (s2)))))
    have hc := flt_R (f := { Flt.of 5376 t with level := gV 0 getCons (s2), received := gV 0 getNum (gR getCons (s2)), needed := gV 0 getNum (gR getNum (gR getCons (s2))), failures := gV 0 getNum (gR getNum (gR getNum (gR getCons (s2)))), write := gV [] getText (gR getNum (gR getNum (gR getNum (gR getCons (s2))))) }) HS1.out HVC.out HS2.out HVT.out (by rw [flt_5376]; exact tie_bindT q0 (tie_bindT q1 (tie_bindT q2 (tie_bindT q3 (tie_bindT q4 (tie_pure _ _))))))
    refine ⟨rfl, ?_, HF5.out, { Flt.of 5376 t with level := gV 0 getCons (s2), received := gV 0 getNum (gR getCons (s2)), needed := gV 0 getNum (gR getNum (gR getCons (s2))), failures := gV 0 getNum (gR getNum (gR getNum (gR getCons (s2)))), write := gV [] getText (gR getNum (gR getNum (gR getNum (gR getCons (s2))))) }, none, 0, 0, none, 0, 0, HB5.out, Arr.nil, Sl.nil, hc.1⟩
    rw [hc.2, flt_5376, gR_bindT q0, gR_bindT q1, gR_bindT q2, gR_bindT q3, gR_bindT q4, gR_pure]
    exact HR5.out
  by_cases h5120 : c = 5120
  · subst h5120
    go_wp2_with fail
    refine (m_text (spr_text (i := 9) (x0 := []) HR2.out HB2.out rfl HSX.out HSP.out hPX)).mono ?_
    rintro e w3 ⟨rfl, hr, hf, hb⟩
    have HR3 := Lib.hid hr
    have HB3 := Lib.hid hb
    have HF3 := Lib.hid (HF2.out.trans hf)
    clear hr hf hb
    go_wp2_with fail
    refine (m_text (spr_text (i := 10) (x0 := []) HR3.out HB3.out rfl HSX.out HSP.out hPX)).mono ?_
    rintro e w4 ⟨rfl, hr, hf, hb⟩
    have HR4 := Lib.hid hr
    have HB4 := Lib.hid hb
    have HF4 := Lib.hid (HF3.out.trans hf)
    clear hr hf hb
    go_wp2_with fail
    refine (m_texts (spr_texts (i := 11) HR4.out HB4.out rfl HSX.out HSP.out hPX)).mono ?_
    rintro e w5 ⟨rfl, hr, hf, A4, m4, d4, hb, hrow⟩
    have HR5 := Lib.hid hr
    have HB5 := Lib.hid hb
    have hz4 := HF4.out.size
    have HROW := Lib.hid hrow
    have HF5 := Lib.hid (HF4.out.trans hf)
    clear hr hf hb hrow
    go_wp2_with fail
    refine bodyPost_end (results_none rfl _ _ _) rfl ?_
    have q0 := tie_gV [] getText (s2)
    have q1 := tie_gV [] getText (gR getText (s2))
    have q2 := tie_gV [] getTexts (gR getText (gR getText (s2)))
    have hc := flt_R (f := { Flt.of 5120 t with space := gV [] getText (s2), name := gV [] getText (gR getText (s2)), args := gV [] getTexts (gR getText (gR getText (s2))) }) HS1.out HVC.out HS2.out HVT.out (by rw [flt_5120]; exact tie_bindT q0 (tie_bindT q1 (tie_bindT q2 (tie_pure _ _))))
    refine ⟨rfl, ?_, HF5.out, { Flt.of 5120 t with space := gV [] getText (s2), name := gV [] getText (gR getText (s2)), args := gV [] getTexts (gR getText (gR getText (s2))) }, A4, m4, d4, none, 0, 0, HB5.out, HROW.out.mono fun b hb _ => by omega, Sl.nil, hc.1⟩
    rw [hc.2, flt_5120, gR_bindT q0, gR_bindT q1, gR_bindT q2, gR_pure]
    exact HR5.out
  by_cases h9216 : c = 9216
  · subst h9216
    go_wp2_with fail
    refine (m_text (spr_text (i := 9) (x0 := []) HR2.out HB2.out rfl HSX.out HSP.out hPX)).mono ?_
    rintro e w3 ⟨rfl, hr, hf, hb⟩
    have HR3 := Lib.hid hr
    have HB3 := Lib.hid hb
    have HF3 := Lib.hid (HF2.out.trans hf)
    clear hr hf hb
    go_wp2_with fail
    refine (m_text (spr_text (i := 10) (x0 := []) HR3.out HB3.out rfl HSX.out HSP.out hPX)).mono ?_
    rintro e w4 ⟨rfl, hr, hf, hb⟩
    have HR4 := Lib.hid hr
    have HB4 := Lib.hid hb
    have HF4 := Lib.hid (HF3.out.trans hf)
    clear hr hf hb
    go_wp2_with fail
    refine bodyPost_end (results_none rfl _ _ _) rfl ?_
    have q0 := tie_gV [] getText (s2)
    have q1 := tie_gV [] getText (gR getText (s2))
    have hc := flt_R (f := { Flt.of 9216 t with space := gV [] getText (s2), name := gV [] getText (gR getText (s2)) }) HS1.out HVC.out HS2.out HVT.out (by rw [flt_9216]; exact tie_bindT q0 (tie_bindT q1 (tie_pure _ _)))
    refine ⟨rfl, ?_, HF4.out, { Flt.of 9216 t with space := gV [] getText (s2), name := gV [] getText (gR getText (s2)) }, none, 0, 0, none, 0, 0, HB4.out, Arr.nil, Sl.nil, hc.1⟩
    rw [hc.2, flt_9216, gR_bindT q0, gR_bindT q1, gR_pure]
    exact HR4.out
  by_cases h9472 : c = 9472
  · subst h9472
    go_wp2_with fail
    refine (rdm_short (i := 12) HR2.out HB2.out rfl HSX.out HSP.out hPX).mono ?_
    rintro e w3 ⟨rfl, hr, hf, A2, m2, d2, hb, hrow⟩
    have HR3 := Lib.hid hr
    have HB3 := Lib.hid hb
    have hz2 := HF2.out.size
    have HROW := Lib.hid hrow
    have HF3 := Lib.hid (HF2.out.trans hf)
    clear hr hf hb hrow
    go_wp2_with fail
    refine bodyPost_end (results_none rfl _ _ _) rfl ?_
    have q0 := tie_gV [] getText (s2)
    have hc := flt_R (f := { Flt.of 9472 t with ident := gV [] getText (s2) }) HS1.out HVC.out HS2.out HVT.out (by rw [flt_9472]; exact tie_bindT q0 (tie_pure _ _))
    refine ⟨rfl, ?_, HF3.out, { Flt.of 9472 t with ident := gV [] getText (s2) }, none, 0, 0, A2, m2, d2, HB3.out, Arr.nil, HROW.out.mono fun b hb _ => by omega, hc.1⟩
    rw [hc.2, flt_9472, gR_bindT q0, gR_pure]
    exact HR3.out
  have n4096 : ((c : Int) == 4096) = false := beq_eq_false_iff_ne.2 (by omega)
  have n4352 : ((c : Int) == 4352) = false := beq_eq_false_iff_ne.2 (by omega)
  have n4608 : ((c : Int) == 4608) = false := beq_eq_false_iff_ne.2 (by omega)
  have n4864 : ((c : Int) == 4864) = false := beq_eq_false_iff_ne.2 (by omega)
  have n5376 : ((c : Int) == 5376) = false := beq_eq_false_iff_ne.2 (by omega)
  have n5120 : ((c : Int) == 5120) = false := beq_eq_false_iff_ne.2 (by omega)
  have n9216 : ((c : Int) == 9216) = false := beq_eq_false_iff_ne.2 (by omega)
  have n9472 : ((c : Int) == 9472) = false := beq_eq_false_iff_ne.2 (by omega)
  have HNO := Lib.hid (flt_no (t := t) ⟨h4096, h4352, h4608, h4864, h5376, h5120, h9216, h9472⟩)
  clear h4096 h4352 h4608 h4864 h5376 h5120 h9216 h9472
  go_wp2_with fail
  refine bodyPost_end (results_none rfl _ _ _) rfl ?_
  have hc := flt_R (f := Flt.of c t) HS1.out HVC.out HS2.out HVT.out (by rw [HNO.out]; exact tie_pure _ _)
  refine ⟨rfl, ?_, HF2.out, Flt.of c t, none, 0, 0, none, 0, 0, HB2.out, Arr.nil, Sl.nil, hc.1⟩
  rw [hc.2, HNO.out, gR_pure]
  exact HR2.out
end Go.Proofs.Sb

/- Walks over reply.stream's note, result, parts, reading. Conditions: lengths up to 2^47. -/
namespace Sb
theorem nte_s {k : B} (h : k = wSchema) : (fun b => if k = wSchema then bindR (chgR b) fun c b => .ok ((⟨k, [], Adr.none, c⟩ : Nte), b) else bindR (wordR (if k = wTopology then wdsN else wdsU) b) fun w b => bindR (getInet b) fun a b => .ok (⟨k, w, a, Chg.none⟩, b)) = fun b => bindR (chgR b) fun c b => .ok (⟨k, [], Adr.none, c⟩, b) := by
  funext b
  rw [if_pos h]
theorem nte_a {k : B} (h : ¬ k = wSchema) : (fun b => if k = wSchema then bindR (chgR b) fun c b => .ok ((⟨k, [], Adr.none, c⟩ : Nte), b) else bindR (wordR (if k = wTopology then wdsN else wdsU) b) fun w b => bindR (getInet b) fun a b => .ok (⟨k, w, a, Chg.none⟩, b)) = fun b => bindR (wordR (if k = wTopology then wdsN else wdsU) b) fun w b => bindR (getInet b) fun a b => .ok (⟨k, w, a, Chg.none⟩, b) := by
  funext b
  rw [if_neg h]
theorem nte_R1 {s s1 : Wr} {k : B} {c : Chg} (h1 : gR (wordR wdsE) s = s1) (hk : gV [] getText s = k) (h : k = wSchema) (hc : Tie chgR s1 c) : Tie nteR s ⟨k, [], Adr.none, c⟩ ∧ gR nteR s = gR chgR s1 := by
  have t1 : Tie (wordR wdsE) s k := hk ▸ tie_word wdsE s
  have e : nteR = fun b => bindR (wordR wdsE b) fun k b => (fun b => if k = wSchema then bindR (chgR b) fun c b => .ok ((⟨k, [], Adr.none, c⟩ : Nte), b) else bindR (wordR (if k = wTopology then wdsN else wdsU) b) fun w b => bindR (getInet b) fun a b => .ok (⟨k, w, a, Chg.none⟩, b)) b := rfl
  rw [e]
  refine ⟨tie_bindT t1 ?_, ?_⟩
  · rw [h1, nte_s h]
    exact tie_bindT hc (tie_pure _ _)
  · rw [gR_bindT t1, h1, nte_s h, gR_bindT hc]
    exact gR_pure _ _
theorem nte_R2 {s s1 s2 : Wr} {k w : B} {a : Adr} {ws : List B} (h1 : gR (wordR wdsE) s = s1) (hk : gV [] getText s = k) (h : ¬ k = wSchema) (hws : (if k = wTopology then wdsN else wdsU) = ws) (h2 : gR (wordR ws) s1 = s2) (hw : gV [] getText s1 = w) (ha : Tie getInet s2 a) : Tie nteR s ⟨k, w, a, Chg.none⟩ ∧ gR nteR s = gR getInet s2 := by
  have t1 : Tie (wordR wdsE) s k := hk ▸ tie_word wdsE s
  have t2 : Tie (wordR ws) s1 w := hw ▸ tie_word ws s1
  have e : nteR = fun b => bindR (wordR wdsE b) fun k b => (fun b => if k = wSchema then bindR (chgR b) fun c b => .ok ((⟨k, [], Adr.none, c⟩ : Nte), b) else bindR (wordR (if k = wTopology then wdsN else wdsU) b) fun w b => bindR (getInet b) fun a b => .ok (⟨k, w, a, Chg.none⟩, b)) b := rfl
  rw [e]
  refine ⟨tie_bindT t1 ?_, ?_⟩
  · rw [h1, nte_a h, hws]
    refine tie_bindT t2 ?_
    rw [h2]
    exact tie_bindT ha (tie_pure _ _)
  · rw [gR_bindT t1, h1, nte_a h, hws, gR_bindT t2, h2, gR_bindT ha]
    exact gR_pure _ _
end Sb
namespace Go.Proofs.Sb
open Go.RowKit _root_.Sb
set_option maxHeartbeats 16000000 in
set_option maxRecDepth 100000 in
theorem rdm_note {S : Nat → Prop} {w : World} {X P op : Nat} {s : Wr} (h : StR S w X s) (hB : Bx (fun b => b = P) w P (rpZ op)) (hSX : ∀ b, S b → b ≠ X) (hSP : ∀ b, S b → b ≠ P) (hPX : P ≠ X) :
    Calls Tryz.prog 25 #[.pointer (some ⟨X, 0, none⟩), .pointer (some ⟨P, 17, none⟩)] w fun e w' => e = .returned (.tuple #[]) ∧ StR S w' X (gR nteR s) ∧ Fr (fun b => b = X ∨ b = P) w w' ∧ ∃ n A1 n1 c1 A2 n2 c2, Bx (fun b => b = P) w' P (rpV { Rp.of op with note := n } zS zS zS zS (.slice A1 n1 c1) (.slice A2 n2 c2) zS zS zS) ∧ Sl (fun b => w.heap.size ≤ b) w' A1 n1 c1 n.addr.addr ∧ Arr 1 strP (fun b => w.heap.size ≤ b) w' A2 n2 c2 n.schema.args ∧ Tie nteR s n := by
  have hXl := h.lt
  have HA := Lib.hid h; clear h
  have hPl := hB.lt
  have HB := Lib.hid hB; clear hB
  have HSX := Lib.hid hSX; have HSP := Lib.hid hSP; clear hSX hSP
  go_enter Tryz.func25, Tryz.ntmps25
  go_wp2_with fail
  refine (rdm_word (i := 17) (ws := wdsE) (S2 := fun b => b = w.heap.size) (HA.out.after (by repeat (first | exact Below.refl _ _ | assumption | refine Below.drew ?_ | refine below_drewN ?_ _ | refine Below.alloc ?_ (by simp) _ | refine Below.setCell ?_ (by simp) _))) (HB.out.after (by repeat (first | exact Below.refl _ _ | assumption | refine Below.drew ?_ | refine below_drewN ?_ _ | refine Below.alloc ?_ (by simp) _ | refine Below.setCell ?_ (by simp) _))) rfl HSX.out HSP.out hPX (arr_strs (by rfl) (by decide) rfl (by decide)) (fun b hb => by omega)).mono ?_
  rintro e w1 ⟨rfl, hr, hf, hb⟩
  have HR1 := Lib.hid hr
  have HB1 := Lib.hid hb
  have HF1 : Hid (Fr (fun b => b = X ∨ b = P) w w1) := Lib.hid ((Fr.of_below (by repeat (first | exact Below.refl _ _ | assumption | refine Below.drew ?_ | refine below_drewN ?_ _ | refine Below.alloc ?_ (by simp) _ | refine Below.setCell ?_ (by simp) _))).trans hf)
  clear hr hf hb
  obtain ⟨s1, hs1⟩ : ∃ s1, gR (wordR wdsE) s = s1 := ⟨_, rfl⟩
  obtain ⟨k, hk⟩ : ∃ k, gV [] getText s = k := ⟨_, rfl⟩
  rw [hs1] at HR1
  rw [hk] at HB1
  have HS1 := Lib.hid hs1; have HVK := Lib.hid hk; clear hs1 hk
  have hx1 := HR1.out.lt
  have hp1 := HB1.out.lt
  have hz1 := HF1.out.size
  have c0 := HB1.out.c 17 _ rfl
  by_cases hsc : k = wSchema
  · have n1 : (k == [83, 67, 72, 69, 77, 65, 95, 67, 72, 65, 78, 71, 69]) = true := by rw [hsc]; decide
    have HSC := Lib.hid hsc; clear hsc
    go_wp2_with fail
    refine (rdm_change (i := 21) HR1.out HB1.out rfl rfl rfl rfl rfl HSX.out HSP.out hPX).mono ?_
    rintro e w2 ⟨rfl, hr, hf, c, A1, m1, d1, hb, harr, htie⟩
    have HR2 := Lib.hid hr
    have HB2 := Lib.hid hb
    have HARR := Lib.hid harr
    have HTIE := Lib.hid htie
    have HF2 := Lib.hid (HF1.out.trans hf)
    clear hr hf hb harr htie
    go_wp2_with fail
    first | refine bodyPost_ret (v := .tuple #[]) (results_none rfl _ _ _) rfl ?_ | refine bodyPost_end (results_none rfl _ _ _) rfl ?_
    have hc := nte_R1 HS1.out HVK.out HSC.out HTIE.out
    refine ⟨rfl, ?_, HF2.out, ⟨k, [], Adr.none, c⟩, none, 0, 0, A1, m1, d1, HB2.out, Sl.nil, HARR.out.mono fun b hb _ => by omega, hc.1⟩
    rw [hc.2]
    exact HR2.out
  · have n1 : (k == [83, 67, 72, 69, 77, 65, 95, 67, 72, 65, 78, 71, 69]) = false := beq_eq_false_iff_ne.2 hsc
    have HSC := Lib.hid hsc; clear hsc
    by_cases htp : k = wTopology
    · have hws : (if k = wTopology then wdsN else wdsU) = wdsN := if_pos htp
      have n2 : (k == [84, 79, 80, 79, 76, 79, 71, 89, 95, 67, 72, 65, 78, 71, 69]) = true := by rw [htp]; decide
      have HWS := Lib.hid hws; clear hws htp
      go_wp2_with fail
      refine (rdm_word (i := 18) (ws := wdsN) (S2 := fun b => b = w1.heap.size) (HR1.out.after (by repeat (first | exact Below.refl _ _ | assumption | refine Below.drew ?_ | refine below_drewN ?_ _ | refine Below.alloc ?_ (by simp) _ | refine Below.setCell ?_ (by simp) _))) (HB1.out.after (by repeat (first | exact Below.refl _ _ | assumption | refine Below.drew ?_ | refine below_drewN ?_ _ | refine Below.alloc ?_ (by simp) _ | refine Below.setCell ?_ (by simp) _))) rfl HSX.out HSP.out hPX (arr_strs (by rfl) (by decide) rfl (by decide)) (fun b hb => by omega)).mono ?_
      rintro e w2 ⟨rfl, hr, hf, hb⟩
      have HR2 := Lib.hid hr
      have HB2 := Lib.hid hb
      have HF2 : Hid (Fr (fun b => b = X ∨ b = P) w w2) := Lib.hid (HF1.out.trans ((Fr.of_below (by repeat (first | exact Below.refl _ _ | assumption | refine Below.drew ?_ | refine below_drewN ?_ _ | refine Below.alloc ?_ (by simp) _ | refine Below.setCell ?_ (by simp) _))).trans hf))
      have hz2 := HF2.out.size
      clear hr hf hb
      go_wp2_with fail
      refine (m_inet (spr_inet (i := 19) HR2.out HB2.out rfl rfl HSX.out HSP.out hPX)).mono ?_
      rintro e w3 ⟨rfl, hr, hf, A1, m1, d1, hb, hrow⟩
      have HR3 := Lib.hid hr
      have HB3 := Lib.hid hb
      have HROW := Lib.hid hrow
      have HF3 := Lib.hid (HF2.out.trans hf)
      clear hr hf hb hrow
      go_wp2_with fail
      first | refine bodyPost_end (results_none rfl _ _ _) rfl ?_ | refine bodyPost_ret (v := .tuple #[]) (results_none rfl _ _ _) rfl ?_
      have hc := nte_R2 HS1.out HVK.out HSC.out HWS.out rfl rfl (tie_gV Adr.none getInet _)
      refine ⟨rfl, ?_, HF3.out, ⟨k, gV [] getText s1, gV Adr.none getInet (gR (wordR wdsN) s1), Chg.none⟩, A1, m1, d1, none, 0, 0, HB3.out, HROW.out.mono fun b hb _ => by omega, Arr.nil, hc.1⟩
      rw [hc.2]
      exact HR3.out
    · have hws : (if k = wTopology then wdsN else wdsU) = wdsU := if_neg htp
      have n2 : (k == [84, 79, 80, 79, 76, 79, 71, 89, 95, 67, 72, 65, 78, 71, 69]) = false := beq_eq_false_iff_ne.2 htp
      have HWS := Lib.hid hws; clear hws htp
      go_wp2_with fail
      refine (rdm_word (i := 18) (ws := wdsU) (S2 := fun b => b = w1.heap.size) (HR1.out.after (by repeat (first | exact Below.refl _ _ | assumption | refine Below.drew ?_ | refine below_drewN ?_ _ | refine Below.alloc ?_ (by simp) _ | refine Below.setCell ?_ (by simp) _))) (HB1.out.after (by repeat (first | exact Below.refl _ _ | assumption | refine Below.drew ?_ | refine below_drewN ?_ _ | refine Below.alloc ?_ (by simp) _ | refine Below.setCell ?_ (by simp) _))) rfl HSX.out HSP.out hPX (arr_strs (by rfl) (by decide) rfl (by decide)) (fun b hb => by omega)).mono ?_
      rintro e w2 ⟨rfl, hr, hf, hb⟩
      have HR2 := Lib.hid hr
      have HB2 := Lib.hid hb
      have HF2 : Hid (Fr (fun b => b = X ∨ b = P) w w2) := Lib.hid (HF1.out.trans ((Fr.of_below (by repeat (first | exact Below.refl _ _ | assumption | refine Below.drew ?_ | refine below_drewN ?_ _ | refine Below.alloc ?_ (by simp) _ | refine Below.setCell ?_ (by simp) _))).trans hf))
      have hz2 := HF2.out.size
      clear hr hf hb
      go_wp2_with fail
      refine (m_inet (spr_inet (i := 19) HR2.out HB2.out rfl rfl HSX.out HSP.out hPX)).mono ?_
      rintro e w3 ⟨rfl, hr, hf, A1, m1, d1, hb, hrow⟩
      have HR3 := Lib.hid hr
      have HB3 := Lib.hid hb
      have HROW := Lib.hid hrow
      have HF3 := Lib.hid (HF2.out.trans hf)
      clear hr hf hb hrow
      go_wp2_with fail
      first | refine bodyPost_end (results_none rfl _ _ _) rfl ?_ | refine bodyPost_ret (v := .tuple #[]) (results_none rfl _ _ _) rfl ?_
      have hc := nte_R2 HS1.out HVK.out HSC.out HWS.out rfl rfl (tie_gV Adr.none getInet _)
      refine ⟨rfl, ?_, HF3.out, ⟨k, gV [] getText s1, gV Adr.none getInet (gR (wordR wdsU) s1), Chg.none⟩, A1, m1, d1, none, 0, 0, HB3.out, HROW.out.mono fun b hb _ => by omega, Arr.nil, hc.1⟩
      rw [hc.2]
      exact HR3.out
end Go.Proofs.Sb
