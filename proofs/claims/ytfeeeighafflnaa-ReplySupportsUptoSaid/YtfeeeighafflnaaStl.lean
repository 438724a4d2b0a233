/- A walk over reply.stream.parts, reading. Conditions: lengths up to 2^47. (written by gen_stl.py) -/
import Derived.Test.YtfeeeighafflnaaStk
set_option linter.unusedVariables false
set_option linter.unusedSimpArgs false
namespace Sb
theorem prt_0 : partsRp 0 = fun b => bindR (fltR b) fun f b => .ok ({ Rp.of 0 with fault := f }, b) := rfl
theorem prt_2 : partsRp 2 = fun b => .ok (Rp.of 2, b) := rfl
theorem prt_3 : partsRp 3 = fun b => bindR (getText b) fun s b => .ok ({ Rp.of 3 with text := s }, b) := rfl
theorem prt_6 : partsRp 6 = fun b => bindR (getL multiR b) fun l b => .ok ({ Rp.of 6 with support := l }, b) := rfl
theorem prt_8 : partsRp 8 = resR := rfl
theorem prt_12 : partsRp 12 = fun b => bindR (nteR b) fun n b => .ok ({ Rp.of 12 with note := n }, b) := rfl
theorem prt_14 : partsRp 14 = fun b => bindR (getValue b) fun v b => .ok ({ Rp.of 14 with token := v }, b) := rfl
theorem prt_16 : partsRp 16 = fun b => bindR (getValue b) fun v b => .ok ({ Rp.of 16 with token := v }, b) := rfl
theorem prt_no {op : Nat} (h0 : op ≠ 0) (h2 : op ≠ 2) (h3 : op ≠ 3) (h6 : op ≠ 6) (h8 : op ≠ 8) (h12 : op ≠ 12) (h14 : op ≠ 14) (h16 : op ≠ 16) : partsRp op = fun _ => .error 22 := by
  funext b
  unfold partsRp
  rw [if_neg h0, if_neg h2, if_neg h3, if_neg h6, if_neg h8, if_neg h12, if_neg (by omega)]
end Sb
namespace Go.Proofs.Sb
open Go.RowKit _root_.Sb
set_option maxHeartbeats 16000000 in
set_option maxRecDepth 100000 in
theorem rdm_parts {S : Nat → Prop} {w : World} {X P op : Nat} {b0 : B} (h : StR S w X (.ok b0)) (hB : Bx (fun b => b = P) w P (rpZ op)) (hSX : ∀ b, S b → b ≠ X) (hSP : ∀ b, S b → b ≠ P) (hPX : P ≠ X) :
    Calls Try.prog 16 #[.pointer (some ⟨X, 0, none⟩), .pointer (some ⟨P, 0, none⟩)] w fun e w' => e = .returned (.tuple #[]) ∧ StR S w' X (gR (partsRp op) (.ok b0)) ∧ Fr (fun b => b = X ∨ b = P) w w' ∧ ∃ x t, Bx (fun b => b = P) w' P (rpT x t) ∧ RpR (fun b => w.heap.size ≤ b) w' x t ∧ Tie (partsRp op) (.ok b0) x := by
  have HST := Lib.hid h
  obtain ⟨A, n, c, hx, h3', h4'⟩ := h
  have HBX := Lib.hid hx; clear hx h3' h4'
  have HA := HST
  have HB := Lib.hid hB; clear hB
  have HSX := Lib.hid hSX; have HSP := Lib.hid hSP; clear hSX hSP
  have c0 := HB.out.c 0 (.int .u8 ((op : Nat) : Int)) rfl
  have k2 := HBX.out.c 2 _ rfl
  have f2 := HBX.out.fr 2
  go_enter Try.func16, Try.ntmps16
  by_cases h0 : op = 0
  · subst h0
    go_wp2_with fail
    refine (rdm_fault HA.out HB.out HSX.out HSP.out hPX).mono ?_
    rintro e w1 ⟨rfl, hr, hf, f, A1, m1, d1, A2, m2, d2, hb, hrow, hrow2, htie⟩
    have HR1 := Lib.hid hr
    have HB1 := Lib.hid hb
    have HF1 := Lib.hid hf
    have HROW := Lib.hid hrow
    have HROW2 := Lib.hid hrow2
    have HTIE := Lib.hid htie
    clear hr hf hb hrow hrow2 htie
    go_wp2_with fail
    first | refine bodyPost_end (results_none rfl _ _ _) rfl ?_ | refine bodyPost_ret (v := .tuple #[]) (results_none rfl _ _ _) rfl ?_
    have q := HTIE.out
    refine ⟨rfl, ?_, HF1.out, { Rp.of 0 with fault := f }, { Trs.z with fa := ⟨A1, m1, d1⟩, fi := ⟨A2, m2, d2⟩ }, HB1.out, ⟨HROW.out, HROW2.out, Arr.nil, Sl.nil, Sl.nil, Arr.nil, Arr.nil, Sl.nil, Sl.nil⟩, ?_⟩
    · rw [prt_0, gR_bindT q, gR_pure]
      exact HR1.out
    · rw [prt_0]
      exact tie_bindT q (tie_pure _ _)
  by_cases h2 : op = 2
  · subst h2
    go_wp2_with fail
    first | refine bodyPost_end (results_none rfl _ _ _) rfl ?_ | refine bodyPost_ret (v := .tuple #[]) (results_none rfl _ _ _) rfl ?_
    refine ⟨rfl, ?_, Fr.refl _ _, Rp.of 2, .z, HB.out, rp_none, ?_⟩
    · rw [prt_2, gR_pure]
      exact HST.out
    · rw [prt_2]
      exact tie_pure _ _
  by_cases h3 : op = 3
  · subst h3
    go_wp2_with fail
    refine (m_text (spr_text (i := 13) (x0 := []) HA.out HB.out rfl HSX.out HSP.out hPX)).mono ?_
    rintro e w1 ⟨rfl, hr, hf, hb⟩
    have HR1 := Lib.hid hr
    have HB1 := Lib.hid hb
    have HF1 := Lib.hid hf
    clear hr hf hb 
    go_wp2_with fail
    first | refine bodyPost_end (results_none rfl _ _ _) rfl ?_ | refine bodyPost_ret (v := .tuple #[]) (results_none rfl _ _ _) rfl ?_
    have q := tie_gV [] getText (.ok b0)
    refine ⟨rfl, ?_, HF1.out, { Rp.of 3 with text := gV [] getText (.ok b0) }, .z, HB1.out, ⟨Arr.nil, Sl.nil, Arr.nil, Sl.nil, Sl.nil, Arr.nil, Arr.nil, Sl.nil, Sl.nil⟩, ?_⟩
    · rw [prt_3, gR_bindT q, gR_pure]
      exact HR1.out
    · rw [prt_3]
      exact tie_bindT q (tie_pure _ _)
  by_cases h6 : op = 6
  · subst h6
    go_wp2_with fail
    refine (m_multis (spr_multis (i := 14) HA.out HB.out rfl HSX.out HSP.out hPX)).mono ?_
    rintro e w1 ⟨rfl, hr, hf, A1, m1, d1, hb, hrow⟩
    have HR1 := Lib.hid hr
    have HB1 := Lib.hid hb
    have HF1 := Lib.hid hf
    have HROW := Lib.hid hrow
    clear hr hf hb hrow
    go_wp2_with fail
    first | refine bodyPost_end (results_none rfl _ _ _) rfl ?_ | refine bodyPost_ret (v := .tuple #[]) (results_none rfl _ _ _) rfl ?_
    have q := tie_gV [] (getL multiR) (.ok b0)
    refine ⟨rfl, ?_, HF1.out, { Rp.of 6 with support := gV [] (getL multiR) (.ok b0) }, { Trs.z with su := ⟨A1, m1, d1⟩ }, HB1.out, ⟨Arr.nil, Sl.nil, HROW.out, Sl.nil, Sl.nil, Arr.nil, Arr.nil, Sl.nil, Sl.nil⟩, ?_⟩
    · rw [prt_6, gR_bindT q, gR_pure]
      exact HR1.out
    · rw [prt_6]
      exact tie_bindT q (tie_pure _ _)
  by_cases h8 : op = 8
  · subst h8
    go_wp2_with fail
    refine (rdm_result HA.out HB.out HSX.out HSP.out hPX).mono ?_
    rintro e w1 ⟨rfl, hr, hf, x, t, hb, hrow, htie⟩
    have HR1 := Lib.hid hr
    have HB1 := Lib.hid hb
    have HF1 := Lib.hid hf
    have HROW := Lib.hid hrow
    have HTIE := Lib.hid htie
    clear hr hf hb hrow htie
    go_wp2_with fail
    first | refine bodyPost_end (results_none rfl _ _ _) rfl ?_ | refine bodyPost_ret (v := .tuple #[]) (results_none rfl _ _ _) rfl ?_
    have q := HTIE.out
    refine ⟨rfl, ?_, HF1.out, x, t, HB1.out, HROW.out, ?_⟩
    · rw [prt_8]
      exact HR1.out
    · rw [prt_8]
      exact q
  by_cases h12 : op = 12
  · subst h12
    go_wp2_with fail
    refine (rdm_note HA.out HB.out HSX.out HSP.out hPX).mono ?_
    rintro e w1 ⟨rfl, hr, hf, n0, A1, m1, d1, A2, m2, d2, hb, hrow, hrow2, htie⟩
    have HR1 := Lib.hid hr
    have HB1 := Lib.hid hb
    have HF1 := Lib.hid hf
    have HROW := Lib.hid hrow
    have HROW2 := Lib.hid hrow2
    have HTIE := Lib.hid htie
    clear hr hf hb hrow hrow2 htie
    go_wp2_with fail
    first | refine bodyPost_end (results_none rfl _ _ _) rfl ?_ | refine bodyPost_ret (v := .tuple #[]) (results_none rfl _ _ _) rfl ?_
    have q := HTIE.out
    refine ⟨rfl, ?_, HF1.out, { Rp.of 12 with note := n0 }, { Trs.z with ad := ⟨A1, m1, d1⟩, sc := ⟨A2, m2, d2⟩ }, HB1.out, ⟨Arr.nil, Sl.nil, Arr.nil, Sl.nil, HROW.out, HROW2.out, Arr.nil, Sl.nil, Sl.nil⟩, ?_⟩
    · rw [prt_12, gR_bindT q, gR_pure]
      exact HR1.out
    · rw [prt_12]
      exact tie_bindT q (tie_pure _ _)
  by_cases h14 : op = 14
  · subst h14
    go_wp2_with fail
    refine (m_value (spr_value (i := 15) HA.out HB.out rfl rfl HSX.out HSP.out hPX)).mono ?_
    rintro e w1 ⟨rfl, hr, hf, A1, m1, d1, hb, hrow⟩
    have HR1 := Lib.hid hr
    have HB1 := Lib.hid hb
    have HF1 := Lib.hid hf
    have HROW := Lib.hid hrow
    clear hr hf hb hrow
    go_wp2_with fail
    first | refine bodyPost_end (results_none rfl _ _ _) rfl ?_ | refine bodyPost_ret (v := .tuple #[]) (results_none rfl _ _ _) rfl ?_
    have q := tie_gV Val.none getValue (.ok b0)
    refine ⟨rfl, ?_, HF1.out, { Rp.of 14 with token := gV Val.none getValue (.ok b0) }, { Trs.z with tk := ⟨A1, m1, d1⟩ }, HB1.out, ⟨Arr.nil, Sl.nil, Arr.nil, HROW.out, Sl.nil, Arr.nil, Arr.nil, Sl.nil, Sl.nil⟩, ?_⟩
    · rw [prt_14, gR_bindT q, gR_pure]
      exact HR1.out
    · rw [prt_14]
      exact tie_bindT q (tie_pure _ _)
  by_cases h16 : op = 16
  · subst h16
    go_wp2_with fail
    refine (m_value (spr_value (i := 15) HA.out HB.out rfl rfl HSX.out HSP.out hPX)).mono ?_
    rintro e w1 ⟨rfl, hr, hf, A1, m1, d1, hb, hrow⟩
    have HR1 := Lib.hid hr
    have HB1 := Lib.hid hb
    have HF1 := Lib.hid hf
    have HROW := Lib.hid hrow
    clear hr hf hb hrow
    go_wp2_with fail
    first | refine bodyPost_end (results_none rfl _ _ _) rfl ?_ | refine bodyPost_ret (v := .tuple #[]) (results_none rfl _ _ _) rfl ?_
    have q := tie_gV Val.none getValue (.ok b0)
    refine ⟨rfl, ?_, HF1.out, { Rp.of 16 with token := gV Val.none getValue (.ok b0) }, { Trs.z with tk := ⟨A1, m1, d1⟩ }, HB1.out, ⟨Arr.nil, Sl.nil, Arr.nil, HROW.out, Sl.nil, Arr.nil, Arr.nil, Sl.nil, Sl.nil⟩, ?_⟩
    · rw [prt_16, gR_bindT q, gR_pure]
      exact HR1.out
    · rw [prt_16]
      exact tie_bindT q (tie_pure _ _)
  have n0 : ((op : Int) == 0) = false := beq_eq_false_iff_ne.2 (by omega)
  have n2 : ((op : Int) == 2) = false := beq_eq_false_iff_ne.2 (by omega)
  have n3 : ((op : Int) == 3) = false := beq_eq_false_iff_ne.2 (by omega)
  have n6 : ((op : Int) == 6) = false := beq_eq_false_iff_ne.2 (by omega)
  have n8 : ((op : Int) == 8) = false := beq_eq_false_iff_ne.2 (by omega)
  have n12 : ((op : Int) == 12) = false := beq_eq_false_iff_ne.2 (by omega)
  have n14 : ((op : Int) == 14) = false := beq_eq_false_iff_ne.2 (by omega)
  have n16 : ((op : Int) == 16) = false := beq_eq_false_iff_ne.2 (by omega)
  have HNO := Lib.hid (prt_no h0 h2 h3 h6 h8 h12 h14 h16)
  clear h0 h2 h3 h6 h8 h12 h14 h16
  go_wp2_with fail

  first | refine bodyPost_end (results_none rfl _ _ _) rfl ?_ | refine bodyPost_ret (v := .tuple #[]) (results_none rfl _ _ _) rfl ?_
  have hf : Fr (fun b => b = X ∨ b = P) w (w.setCell ⟨X, 2, none⟩ (.int .i64 22)) := Fr.set (S := fun b => b = X ∨ b = P) _ (X := X) (.inl rfl) _
  refine ⟨rfl, ?_, hf, Rp.of op, .z, ?_, rp_none, by rw [HNO.out]; exact tie_err _ _ _⟩
  · rw [HNO.out]
    exact ⟨A, n, c, HBX.out.put 2 _ (by show 2 < 3; decide), fun cu e => (by cases e), fun e he => (by injection he with he; subst he; decide)⟩
  · exact goesBx.keep HB.out (by simp) fun b hb hl => Below.heap_setCell _ ⟨X, 2, none⟩ _ b (by rw [hb]; exact hPX)
end Go.Proofs.Sb
