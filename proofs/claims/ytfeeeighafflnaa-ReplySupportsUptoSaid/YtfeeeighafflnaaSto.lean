/- Walks over reply.stream's result and parts, writing. Conditions: lengths up to 2^47. (written by gen_sto.py) -/
import Derived.Test.YtfeeeighafflnaaStn
set_option linter.unusedVariables false
set_option linter.unusedSimpArgs false
namespace Sb
theorem valueS_len (x : Val) : lenS (value x) ≤ 4 + x.bytes.length := by
  unfold value
  split
  · show 4 ≤ _; omega
  · split
    · show 4 ≤ _; omega
    · split
      · show (long x.bytes).length ≤ _
        unfold long
        rw [List.length_append, enc_length]
        exact Nat.le_refl _
      · show 0 ≤ _; omega
end Sb
namespace Go.Proofs.Sb
open Go.RowKit _root_.Sb
set_option maxHeartbeats 16000000 in
set_option maxRecDepth 100000 in
theorem wrm_result {T S : Nat → Prop} {w : World} {X P : Nat} {s : Wr} {x : Rp} {t : Trs} (h : StW T w X s) (hB : Bx (fun b => b = P) w P (rpT x t)) (hR : RpR S w x t) (hT : ¬ T P) (hS : ∀ b, S b → ¬ T b) (hD : RpB x) (hl : lenS s ≤ 100) :
    Calls Try.prog 27 #[.pointer (some ⟨X, 0, none⟩), .pointer (some ⟨P, 0, none⟩)] w fun e w' => e = .returned (.tuple #[]) ∧ ∃ T', SW w T w' X (bothW s (resW x)) T' := by
  have HK0 := Lib.hid (SW.refl h); clear h
  have hPl := hB.lt
  have HB0 := Lib.hid hB; clear hB
  have HS : Hid (∀ b, S b ∧ b < w.heap.size → ¬ T b) := Lib.hid (fun b hb => hS b hb.1); clear hS
  have HR := Lib.hid (goesRp.mono hR (S' := fun b => S b ∧ b < w.heap.size) fun b h1 h2 => ⟨h1, h2⟩); clear hR
  have HD := Lib.hid hD; clear hD
  have HTP : ∀ {W T' s'}, SW w T W X s' T' → Bx (fun b => b = P) W P (rpT x t) := fun k => k.keep goesBx HB0.out fun b hb e => hT (hb ▸ e)
  go_enter Try.func27, Try.ntmps27
  go_wp2_with fail
  refine (m_code (spw_code (x := x.kind) HK0.out.at' (HB0.out.c 26 _ rfl) HD.out.rkind (by have := encS_len 4 x.kind; omega))).mono ?_
  rintro e w1 ⟨rfl, T1, hk⟩
  have HK1 := Lib.hid (HK0.out.trans hk); clear hk
  have hl1 : lenS (bothW s (.ok (enc 4 x.kind))) ≤ 104 := Nat.le_trans (lenS_le hl (Nat.le_of_eq (encS_len 4 _))) (by omega)
  obtain ⟨s1, hs1⟩ : ∃ q, bothW s (.ok (enc 4 x.kind)) = q := ⟨_, rfl⟩
  rw [hs1] at HK1 hl1
  have HE1 := Lib.hid hs1; clear hs1
  have hT1 : ¬ T1 P := HK1.out.not hPl hT
  have HB1 := Lib.hid (HTP HK1.out)
  have hfin : bothW s (resW x) = bothW s1 (resTW x) := by
    unfold resW
    rw [← HE1.out, bothS_assoc]
  have HFIN := Lib.hid hfin; clear hfin
  have c1 := HB1.out.c 26 (.int .u32 ((x.kind : Nat) : Int)) rfl
  obtain ⟨k, hk⟩ : ∃ k, x.kind = k := ⟨_, rfl⟩
  rw [hk] at c1
  have HC := Lib.hid hk; clear hk
  by_cases h1 : k = 1
  · subst h1
    have HTL : Hid (resTW x = .ok []) := Lib.hid (by unfold resTW; rw [HC.out]; rfl)
    go_wp2_with fail
    first | refine bodyPost_end (results_none rfl _ _ _) rfl ?_ | refine bodyPost_ret (v := .tuple #[]) (results_none rfl _ _ _) rfl ?_
    refine ⟨rfl, T1, HK1.out.as ?_⟩
    rw [HFIN.out, HTL.out, bothS_nil]
  by_cases h3 : k = 3
  · subst h3
    have HTL : Hid (resTW x = text x.text) := Lib.hid (by unfold resTW; rw [HC.out]; rfl)
    go_wp2_with fail
    refine (m_text (spw_text (x := x.text) HK1.out.at' (HB1.out.c 13 _ rfl) HD.out.text (by have := textS_len x.text; omega))).mono ?_
    rintro e w2 ⟨rfl, T2, hk⟩
    have HK2 := Lib.hid (HK1.out.trans hk); clear hk
    go_wp2_with fail
    first | refine bodyPost_end (results_none rfl _ _ _) rfl ?_ | refine bodyPost_ret (v := .tuple #[]) (results_none rfl _ _ _) rfl ?_
    refine ⟨rfl, T2, HK2.out.as ?_⟩
    rw [HFIN.out, HTL.out]
  by_cases h5 : k = 5
  · subst h5
    have HTL : Hid (resTW x = chgW x.change) := Lib.hid (by unfold resTW; rw [HC.out]; rfl)
    go_wp2_with fail
    refine (wrm_change (i := 27) (c := x.change) HK1.out.at' HB1.out ⟨rfl, rfl, rfl, rfl, rfl, HK1.out.keep goesArr HR.out.cg (fun b hb => HS.out b hb), HD.out.chg.what, HD.out.chg.target, HD.out.chg.space, HD.out.chg.name⟩ hT1 (fun b hb => HK1.out.not hb.2 (HS.out b hb)) (by have := HD.out.lcg; omega)).mono ?_
    rintro e w2 ⟨rfl, T2, hk⟩
    have HK2 := Lib.hid (HK1.out.trans hk); clear hk
    go_wp2_with fail
    first | refine bodyPost_end (results_none rfl _ _ _) rfl ?_ | refine bodyPost_ret (v := .tuple #[]) (results_none rfl _ _ _) rfl ?_
    refine ⟨rfl, T2, HK2.out.as ?_⟩
    rw [HFIN.out, HTL.out]
  by_cases h4 : k = 4
  · subst h4
    have HTL : Hid (resTW x = bothW (text x.ident) (.ok x.rest)) := Lib.hid (by unfold resTW; rw [HC.out]; rfl)
    go_wp2_with fail
    refine (wrm_short (x := x.ident) HK1.out.at' (HB1.out.c 32 _ rfl) (HK1.out.keep goesSl HR.out.idn HS.out) HD.out.ident (by have := textS_len x.ident; omega)).mono ?_
    rintro e w2 ⟨rfl, T2, hk⟩
    have HK2 := Lib.hid (HK1.out.trans hk); clear hk
    have hl2 : lenS (bothW s1 (text x.ident)) ≤ 65700 := Nat.le_trans (lenS_le hl1 (textS_len _)) (by omega)
    have HB2 := Lib.hid (HTP HK2.out)
    go_wp2_with fail
    refine (m_all (spw_all (x := x.rest) HK2.out.at' (HB2.out.c 33 _ rfl) (HK2.out.keep goesSl HR.out.rs HS.out) (by have := HD.out.rest; show _ + x.rest.length ≤ _; omega))).mono ?_
    rintro e w3 ⟨rfl, T3, hk⟩
    have HK3 := Lib.hid (HK2.out.trans hk); clear hk
    go_wp2_with fail
    first | refine bodyPost_end (results_none rfl _ _ _) rfl ?_ | refine bodyPost_ret (v := .tuple #[]) (results_none rfl _ _ _) rfl ?_
    refine ⟨rfl, T3, HK3.out.as ?_⟩
    rw [HFIN.out, HTL.out, bothS_assoc]
  by_cases h2 : k = 2
  · subst h2
    have HTL : Hid (resTW x = .ok x.rest) := Lib.hid (by unfold resTW; rw [HC.out]; rfl)
    go_wp2_with fail
    refine (m_all (spw_all (x := x.rest) HK1.out.at' (HB1.out.c 33 _ rfl) (HK1.out.keep goesSl HR.out.rs HS.out) (by have := HD.out.rest; show _ + x.rest.length ≤ _; omega))).mono ?_
    rintro e w2 ⟨rfl, T2, hk⟩
    have HK2 := Lib.hid (HK1.out.trans hk); clear hk
    go_wp2_with fail
    first | refine bodyPost_end (results_none rfl _ _ _) rfl ?_ | refine bodyPost_ret (v := .tuple #[]) (results_none rfl _ _ _) rfl ?_
    refine ⟨rfl, T2, HK2.out.as ?_⟩
    rw [HFIN.out, HTL.out]
  have n1 : ((k : Int) == 1) = false := beq_eq_false_iff_ne.2 (by omega)
  have n3 : ((k : Int) == 3) = false := beq_eq_false_iff_ne.2 (by omega)
  have n5 : ((k : Int) == 5) = false := beq_eq_false_iff_ne.2 (by omega)
  have n4 : ((k : Int) == 4) = false := beq_eq_false_iff_ne.2 (by omega)
  have n2 : ((k : Int) == 2) = false := beq_eq_false_iff_ne.2 (by omega)
  have HTL : Hid (resTW x = .error 11) := Lib.hid (by unfold resTW; rw [HC.out, if_neg h1, if_neg h3, if_neg h5, if_neg h4, if_neg h2])
  clear h1 h3 h5 h4 h2
  go_wp2_with fail
  refine (wrm_must HK1.out.at').mono ?_
  rintro e w2 ⟨rfl, T2, hk⟩
  have HK2 := Lib.hid (HK1.out.trans hk); clear hk
  go_wp2_with fail
  first | refine bodyPost_end (results_none rfl _ _ _) rfl ?_ | refine bodyPost_ret (v := .tuple #[]) (results_none rfl _ _ _) rfl ?_
  refine ⟨rfl, T2, HK2.out.as ?_⟩
  rw [HFIN.out, HTL.out]
  rfl

set_option maxHeartbeats 16000000 in
set_option maxRecDepth 100000 in
theorem wrm_parts {T S : Nat → Prop} {w : World} {X P : Nat} {x : Rp} {t : Trs} (h : StW T w X (.ok [])) (hB : Bx (fun b => b = P) w P (rpT x t)) (hR : RpR S w x t) (hT : ¬ T P) (hS : ∀ b, S b → ¬ T b) (hD : RpB x) (hM : ∃ M, (∀ y ∈ x.support, ∀ b, multiW y = .ok b → b.length ≤ M) ∧ 2 + x.support.length * M ≤ 140737488000000) :
    Calls Try.prog 16 #[.pointer (some ⟨X, 0, none⟩), .pointer (some ⟨P, 0, none⟩)] w fun e w' => e = .returned (.tuple #[]) ∧ ∃ T', SW w T w' X (putRp x) T' := by
  obtain ⟨s, hs⟩ : ∃ s : Wr, .ok [] = s := ⟨_, rfl⟩
  rw [hs] at h
  have hl : lenS s ≤ 0 := by rw [← hs]; exact Nat.le_refl _
  have HNIL : Hid (∀ r : Wr, bothW s r = r) := Lib.hid (fun r => by rw [← hs]; cases r <;> rfl)
  have HE0 := Lib.hid hs; clear hs
  have HM := Lib.hid hM; clear hM
  obtain ⟨A, n, c, bs, h1, h2, h3, h4, h5⟩ := h.ex
  have HO := Lib.hid h1; clear h1
  have HBX := Lib.hid h2; clear h2
  have H3 := Lib.hid h3; clear h3 h4 h5
  have k2 := HBX.out.c 2 _ rfl
  have f2 := HBX.out.fr 2
  have HK0 := Lib.hid (SW.refl h); clear h
  have hPl := hB.lt
  have HB0 := Lib.hid hB; clear hB
  have HS : Hid (∀ b, S b ∧ b < w.heap.size → ¬ T b) := Lib.hid (fun b hb => hS b hb.1); clear hS
  have HR := Lib.hid (goesRp.mono hR (S' := fun b => S b ∧ b < w.heap.size) fun b h1 h2 => ⟨h1, h2⟩); clear hR
  have HD := Lib.hid hD; clear hD
  have HTP : ∀ {W T' s'}, SW w T W X s' T' → Bx (fun b => b = P) W P (rpT x t) := fun k => k.keep goesBx HB0.out fun b hb e => hT (hb ▸ e)
  have c1 := HB0.out.c 0 (.int .u8 ((x.opcode : Nat) : Int)) rfl
  obtain ⟨op, ho⟩ : ∃ k, x.opcode = k := ⟨_, rfl⟩
  rw [ho] at c1
  have HC := Lib.hid ho; clear ho
  go_enter Try.func16, Try.ntmps16
  by_cases h0 : op = 0
  · subst h0
    have HTL : Hid (putRp x = fltW x.fault) := Lib.hid (by unfold putRp; rw [HC.out]; rfl)
    go_wp2_with fail
    refine (wrm_fault HK0.out.at' HB0.out HR.out hT HS.out HD.out.flt (by have := HD.out.lfa; omega)).mono ?_
    rintro e w1 ⟨rfl, T1, hk⟩
    have HK1 := Lib.hid (HK0.out.trans hk); clear hk
    go_wp2_with fail
    first | refine bodyPost_end (results_none rfl _ _ _) rfl ?_ | refine bodyPost_ret (v := .tuple #[]) (results_none rfl _ _ _) rfl ?_
    refine ⟨rfl, T1, HK1.out.as ?_⟩
    rw [HTL.out, HNIL.out]
  by_cases h2 : op = 2
  · subst h2
    have HTL : Hid (putRp x = .ok []) := Lib.hid (by unfold putRp; rw [HC.out]; rfl)
    go_wp2_with fail
    first | refine bodyPost_end (results_none rfl _ _ _) rfl ?_ | refine bodyPost_ret (v := .tuple #[]) (results_none rfl _ _ _) rfl ?_
    refine ⟨rfl, T, HK0.out.as ?_⟩
    rw [HTL.out, HE0.out]
  by_cases h3 : op = 3
  · subst h3
    have HTL : Hid (putRp x = text x.text) := Lib.hid (by unfold putRp; rw [HC.out]; rfl)
    go_wp2_with fail
    refine (m_text (spw_text (x := x.text) HK0.out.at' (HB0.out.c 13 _ rfl) HD.out.text (by have := textS_len x.text; omega))).mono ?_
    rintro e w1 ⟨rfl, T1, hk⟩
    have HK1 := Lib.hid (HK0.out.trans hk); clear hk
    go_wp2_with fail
    first | refine bodyPost_end (results_none rfl _ _ _) rfl ?_ | refine bodyPost_ret (v := .tuple #[]) (results_none rfl _ _ _) rfl ?_
    refine ⟨rfl, T1, HK1.out.as ?_⟩
    rw [HTL.out, HNIL.out]
  by_cases h6 : op = 6
  · subst h6
    have HTL : Hid (putRp x = putL multiW x.support) := Lib.hid (by unfold putRp; rw [HC.out]; rfl)
    obtain ⟨M, hM1, hM2⟩ := HM.out
    have hlm : lenS (putL multiW x.support) ≤ 2 + x.support.length * M := by
      cases hp : putL multiW x.support with
      | error e => exact Nat.zero_le _
      | ok b => exact (putL_len hM1 hp).2
    go_wp2_with fail
    refine (m_multis (spw_multis (M := M) (x := x.support) HK0.out.at' (HB0.out.c 14 _ rfl) ⟨HR.out.su, hM1, fun _ => by omega⟩ (by omega))).mono ?_
    rintro e w1 ⟨rfl, T1, hk⟩
    have HK1 := Lib.hid (HK0.out.trans hk); clear hk
    go_wp2_with fail
    first | refine bodyPost_end (results_none rfl _ _ _) rfl ?_ | refine bodyPost_ret (v := .tuple #[]) (results_none rfl _ _ _) rfl ?_
    refine ⟨rfl, T1, HK1.out.as ?_⟩
    rw [HTL.out, HNIL.out]
  by_cases h8 : op = 8
  · subst h8
    have HTL : Hid (putRp x = resW x) := Lib.hid (by unfold putRp; rw [HC.out]; rfl)
    go_wp2_with fail
    refine (wrm_result HK0.out.at' HB0.out HR.out hT HS.out HD.out (by omega)).mono ?_
    rintro e w1 ⟨rfl, T1, hk⟩
    have HK1 := Lib.hid (HK0.out.trans hk); clear hk
    go_wp2_with fail
    first | refine bodyPost_end (results_none rfl _ _ _) rfl ?_ | refine bodyPost_ret (v := .tuple #[]) (results_none rfl _ _ _) rfl ?_
    refine ⟨rfl, T1, HK1.out.as ?_⟩
    rw [HTL.out, HNIL.out]
  by_cases h12 : op = 12
  · subst h12
    have HTL : Hid (putRp x = nteW x.note) := Lib.hid (by unfold putRp; rw [HC.out]; rfl)
    go_wp2_with fail
    refine (wrm_note HK0.out.at' HB0.out HR.out hT HS.out HD.out (by have := HD.out.lsc; omega)).mono ?_
    rintro e w1 ⟨rfl, T1, hk⟩
    have HK1 := Lib.hid (HK0.out.trans hk); clear hk
    go_wp2_with fail
    first | refine bodyPost_end (results_none rfl _ _ _) rfl ?_ | refine bodyPost_ret (v := .tuple #[]) (results_none rfl _ _ _) rfl ?_
    refine ⟨rfl, T1, HK1.out.as ?_⟩
    rw [HTL.out, HNIL.out]
  by_cases h14 : op = 14
  · subst h14
    have HTL : Hid (putRp x = value x.token) := Lib.hid (by unfold putRp; rw [HC.out]; rfl)
    go_wp2_with fail
    refine (m_value (spw_value (x := x.token) HK0.out.at' (HB0.out.c 15 _ rfl) (HB0.out.c 16 _ rfl) ⟨HR.out.tk, by have := HR.out.tk.len; have := HD.out.token; omega⟩ (by have := valueS_len x.token; have := HD.out.token; omega))).mono ?_
    rintro e w1 ⟨rfl, T1, hk⟩
    have HK1 := Lib.hid (HK0.out.trans hk); clear hk
    go_wp2_with fail
    first | refine bodyPost_end (results_none rfl _ _ _) rfl ?_ | refine bodyPost_ret (v := .tuple #[]) (results_none rfl _ _ _) rfl ?_
    refine ⟨rfl, T1, HK1.out.as ?_⟩
    rw [HTL.out, HNIL.out]
  by_cases h16 : op = 16
  · subst h16
    have HTL : Hid (putRp x = value x.token) := Lib.hid (by unfold putRp; rw [HC.out]; rfl)
    go_wp2_with fail
    refine (m_value (spw_value (x := x.token) HK0.out.at' (HB0.out.c 15 _ rfl) (HB0.out.c 16 _ rfl) ⟨HR.out.tk, by have := HR.out.tk.len; have := HD.out.token; omega⟩ (by have := valueS_len x.token; have := HD.out.token; omega))).mono ?_
    rintro e w1 ⟨rfl, T1, hk⟩
    have HK1 := Lib.hid (HK0.out.trans hk); clear hk
    go_wp2_with fail
    first | refine bodyPost_end (results_none rfl _ _ _) rfl ?_ | refine bodyPost_ret (v := .tuple #[]) (results_none rfl _ _ _) rfl ?_
    refine ⟨rfl, T1, HK1.out.as ?_⟩
    rw [HTL.out, HNIL.out]
  have n0 : ((op : Int) == 0) = false := beq_eq_false_iff_ne.2 (by omega)
  have n2 : ((op : Int) == 2) = false := beq_eq_false_iff_ne.2 (by omega)
  have n3 : ((op : Int) == 3) = false := beq_eq_false_iff_ne.2 (by omega)
  have n6 : ((op : Int) == 6) = false := beq_eq_false_iff_ne.2 (by omega)
  have n8 : ((op : Int) == 8) = false := beq_eq_false_iff_ne.2 (by omega)
  have n12 : ((op : Int) == 12) = false := beq_eq_false_iff_ne.2 (by omega)
  have n14 : ((op : Int) == 14) = false := beq_eq_false_iff_ne.2 (by omega)
  have n16 : ((op : Int) == 16) = false := beq_eq_false_iff_ne.2 (by omega)
  have HTL : Hid (putRp x = .error 22) := Lib.hid (by unfold putRp; rw [HC.out, if_neg h0, if_neg h2, if_neg h3, if_neg h6, if_neg h8, if_neg h12, if_neg (by omega)])
  clear h0 h2 h3 h6 h8 h12 h14 h16
  go_wp2_with fail
  first | refine bodyPost_end (results_none rfl _ _ _) rfl ?_ | refine bodyPost_ret (v := .tuple #[]) (results_none rfl _ _ _) rfl ?_
  have hf : Fr (fun b => b = X) w (w.setCell ⟨X, 2, none⟩ (.int .i64 22)) := Fr.set (S := fun b => b = X) _ (X := X) rfl _
  have HA := HK0.out.at'
  have hX : T X := HA.mem
  refine ⟨rfl, T, ⟨hX, fun b hb => Nat.lt_of_lt_of_le (HA.lt b hb) hf.size, A, n, c, bs, ?_, ?_, H3.out, ?_, ?_⟩, Fr.set (S := T) _ (X := X) hX _, fun b h => .inl h⟩
  · have hO : OwnB (fun b => T b ∧ b ≠ X) w A n c bs := ⟨HO.out.1, fun b e => ⟨HO.out.2 b e, H3.out b e⟩⟩
    exact (goesOwnB.keep hO hf.size fun b hb hl => hf.block b hl hb.2).mono fun b hb _ => hb.1
  · rw [HTL.out]
    exact HBX.out.put 2 _ (by show 2 < 3; decide)
  · rw [HTL.out]
    exact fun b e => (by cases e)
  · rw [HTL.out]
    exact fun e he => (by injection he with he; subst he; decide)
end Go.Proofs.Sb
