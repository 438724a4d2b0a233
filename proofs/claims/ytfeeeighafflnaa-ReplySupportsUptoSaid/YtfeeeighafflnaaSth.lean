/- Walks over reply.stream.change, writing; counts, reading and writing. Conditions: lengths up to 2^47. (written by gen_sth.py) -/
import Derived.Test.YtfeeeighafflnaaStg
set_option linter.unusedVariables false
set_option linter.unusedSimpArgs false
namespace Sb
theorem bothS_assoc (a b c : Wr) : bothW (bothW a b) c = bothW a (bothW b c) := by cases a <;> cases b <;> cases c <;> simp [bothW]
theorem bothS_nil (s : Wr) : bothW s (.ok []) = s := by cases s <;> simp [bothW]
theorem textS_len (x : B) : lenS (text x) ≤ 65537 := by
  unfold text
  split
  · show 0 ≤ 65537; decide
  · show (enc 2 x.length ++ x).length ≤ 65537
    rw [List.length_append, enc_length]
    omega
theorem wordS_len (ws : List B) (x : B) : lenS (wordW ws x) ≤ 65537 := by
  unfold wordW
  split
  · exact textS_len x
  · show 0 ≤ 65537; decide
theorem consS_len (x : Nat) : lenS (cons x) ≤ 2 := by
  unfold cons
  split
  · show 0 ≤ 2; decide
  · show (enc 2 x).length ≤ 2
    rw [enc_length]
    exact Nat.le_refl _
theorem num4S_len (x : Int) : lenS (num4W x) ≤ 4 := by
  show (enc 4 _).length ≤ 4
  rw [enc_length]
  exact Nat.le_refl _
theorem lenS_le {s r : Wr} {n m : Nat} (hs : lenS s ≤ n) (hr : lenS r ≤ m) : lenS (bothW s r) ≤ n + m := Nat.le_trans (lenS_both s r) (by omega)
end Sb
namespace Go.Proofs.Sb
open Go.RowKit _root_.Sb
/-- a change's cells and its arguments -/
structure ChgC (S : Nat → Prop) (w : World) (vs : List Value) (i : Nat) (c : Chg) (A1 : Option Addr) (n1 d1 : Nat) : Prop where
  c0 : vs[i]? = some (.string (str c.what))
  c1 : vs[i + 1]? = some (.string (str c.target))
  c2 : vs[i + 2]? = some (.string (str c.space))
  c3 : vs[i + 3]? = some (.string (str c.name))
  c4 : vs[i + 4]? = some (.slice A1 n1 d1)
  args : Arr 1 strP S w A1 n1 d1 c.args
  l0 : c.what.length ≤ 9223372036854775807
  l1 : c.target.length ≤ 9223372036854775807
  l2 : c.space.length ≤ 9223372036854775807
  l3 : c.name.length ≤ 9223372036854775807
set_option maxHeartbeats 4000000 in
set_option maxRecDepth 100000 in
theorem wrm_change {T S : Nat → Prop} {w : World} {X P i : Nat} {s : Wr} {vs : List Value} {c : Chg} {A1 : Option Addr} {n1 d1 : Nat} (h : StW T w X s) (hB : Bx (fun b => b = P) w P vs) (hC : ChgC S w vs i c A1 n1 d1) (hT : ¬ T P) (hS : ∀ b, S b → ¬ T b) (hl : lenS s + 262148 + lenS (texts c.args) ≤ 140737488355328) :
    Calls Try.prog 58 #[.pointer (some ⟨X, 0, none⟩), .pointer (some ⟨P, i, none⟩)] w fun e w' => e = .returned (.tuple #[]) ∧ ∃ T', SW w T w' X (bothW s (chgW c)) T' := by
  have HA := Lib.hid (SW.refl h); clear h
  have hPl := hB.lt
  have HB := Lib.hid hB; clear hB
  have HC := Lib.hid hC; clear hC
  have HS := Lib.hid hS; clear hS
  have HTP : ∀ {W T' s'}, SW w T W X s' T' → Bx (fun b => b = P) W P vs := fun k => k.keep goesBx HB.out fun b hb e => hT (hb ▸ e)
  go_enter Try.func58, Try.ntmps58
  go_wp2_with fail
  refine (wrm_word (ws := wdsW) (x := c.what) (S2 := fun b => b = w.heap.size) ((HA.out.after (by repeat (first | exact Below.refl _ _ | assumption | refine Below.drew ?_ | refine below_drewN ?_ _ | refine Below.alloc ?_ (by simp) _ | refine Below.setCell ?_ (by simp) _)))).at' ((HB.out.after (by repeat (first | exact Below.refl _ _ | assumption | refine Below.drew ?_ | refine below_drewN ?_ _ | refine Below.alloc ?_ (by simp) _ | refine Below.setCell ?_ (by simp) _))).c i _ HC.out.c0) hT HC.out.l0 (by have := textS_len c.what; omega) (arr_strs (by rfl) (by decide) rfl (by decide)) (fun b hb e => by have := HA.out.at'.lt b e; omega)).mono ?_
  rintro e w1 ⟨rfl, T1, hk⟩
  have HK1 := Lib.hid ((HA.out.after (by repeat (first | exact Below.refl _ _ | assumption | refine Below.drew ?_ | refine below_drewN ?_ _ | refine Below.alloc ?_ (by simp) _ | refine Below.setCell ?_ (by simp) _))).trans hk); clear hk
  obtain ⟨s1, hs1⟩ : ∃ s1, bothW s (wordW wdsW c.what) = s1 := ⟨_, rfl⟩
  have hl1 : lenS s1 ≤ lenS s + 65537 := hs1 ▸ lenS_le (Nat.le_refl _) (wordS_len _ _)
  rw [hs1] at HK1
  have HE1 := Lib.hid hs1; clear hs1
  have hT1 : ¬ T1 P := HK1.out.not hPl hT
  have HB1 := Lib.hid (HTP HK1.out)
  go_wp2_with fail
  refine (wrm_word (ws := wdsT) (x := c.target) (S2 := fun b => b = w1.heap.size) ((HK1.out.after (by repeat (first | exact Below.refl _ _ | assumption | refine Below.drew ?_ | refine below_drewN ?_ _ | refine Below.alloc ?_ (by simp) _ | refine Below.setCell ?_ (by simp) _)))).at' ((HB1.out.after (by repeat (first | exact Below.refl _ _ | assumption | refine Below.drew ?_ | refine below_drewN ?_ _ | refine Below.alloc ?_ (by simp) _ | refine Below.setCell ?_ (by simp) _))).c (i + 1) _ HC.out.c1) hT1 HC.out.l1 (by have := textS_len c.target; omega) (arr_strs (by rfl) (by decide) rfl (by decide)) (fun b hb e => by have := HK1.out.at'.lt b e; omega)).mono ?_
  rintro e w2 ⟨rfl, T2, hk⟩
  have HK2 := Lib.hid ((HK1.out.after (by repeat (first | exact Below.refl _ _ | assumption | refine Below.drew ?_ | refine below_drewN ?_ _ | refine Below.alloc ?_ (by simp) _ | refine Below.setCell ?_ (by simp) _))).trans hk); clear hk
  obtain ⟨s2, hs2⟩ : ∃ s2, bothW s1 (wordW wdsT c.target) = s2 := ⟨_, rfl⟩
  have hl2 : lenS s2 ≤ lenS s + 65537 + 65537 := hs2 ▸ lenS_le hl1 (wordS_len _ _)
  rw [hs2] at HK2
  have HE2 := Lib.hid hs2; clear hs2
  have hT2 : ¬ T2 P := HK2.out.not hPl hT
  have HB2 := Lib.hid (HTP HK2.out)
  go_wp2_with fail
  refine (m_text (spw_text (x := c.space) HK2.out.at' (HB2.out.c (i + 2) _ HC.out.c2) HC.out.l2 (by have := textS_len c.space; omega))).mono ?_
  rintro e w3 ⟨rfl, T3, hk⟩
  have HK3 := Lib.hid (HK2.out.trans hk); clear hk
  obtain ⟨s3, hs3⟩ : ∃ s3, bothW s2 (text c.space) = s3 := ⟨_, rfl⟩
  have hl3 : lenS s3 ≤ lenS s + 65537 + 65537 + 65537 := hs3 ▸ lenS_le hl2 (textS_len _)
  rw [hs3] at HK3
  have HE3 := Lib.hid hs3; clear hs3
  have HB3 := Lib.hid (HTP HK3.out)
  have hfin : bothW s (chgW c) = bothW s3 (tailW c.target (c.name, c.args)) := by
    unfold chgW
    rw [← HE3.out, ← HE2.out, ← HE1.out, bothS_assoc, bothS_assoc, bothS_assoc]
  have HFIN := Lib.hid hfin; clear hfin
  have c1 := HB3.out.c (i + 1) _ HC.out.c1
  have hnil : bothW s3 (.ok []) = s3 := bothS_nil s3
  have HNIL := Lib.hid hnil; clear hnil
  obtain ⟨t, ht⟩ : ∃ t, c.target = t := ⟨_, rfl⟩
  rw [ht] at c1 HFIN
  clear ht
  by_cases hfa : t = wFunction ∨ t = wAggregate
  · have htail : tailW t (c.name, c.args) = bothW (text c.name) (texts c.args) := by unfold tailW; rw [if_pos hfa]
    have HTAIL := Lib.hid htail; clear htail
    rcases hfa with hfa | hfa
    · have n1 : (t == [70, 85, 78, 67, 84, 73, 79, 78]) = true := by rw [hfa]; decide
      clear hfa
      go_wp2_with fail
      refine (m_text (spw_text (x := c.name) HK3.out.at' (HB3.out.c (i + 3) _ HC.out.c3) HC.out.l3 (by have := textS_len c.name; omega))).mono ?_
      rintro e w4 ⟨rfl, T4, hk⟩
      have HK4 := Lib.hid (HK3.out.trans hk); clear hk
      have hl4 : lenS (bothW s3 (text c.name)) ≤ lenS s + 65537 + 65537 + 65537 + 65537 := lenS_le hl3 (textS_len _)
      have HB4 := Lib.hid (HTP HK4.out)
      go_wp2_with fail
      refine (m_texts (spw_texts (x := c.args) HK4.out.at' (HB4.out.c (i + 4) _ HC.out.c4) (HK4.out.keep goesArr HC.out.args HS.out) (by omega))).mono ?_
      rintro e w5 ⟨rfl, T5, hk⟩
      have HK5 := Lib.hid (HK4.out.trans hk); clear hk
      go_wp2_with fail
      refine bodyPost_end (results_none rfl _ _ _) rfl ?_
      exact ⟨rfl, T5, HK5.out.as (by rw [HFIN.out, HTAIL.out, bothS_assoc])⟩
    · have n1 : (t == [70, 85, 78, 67, 84, 73, 79, 78]) = false := by rw [hfa]; decide
      have n2 : (t == [65, 71, 71, 82, 69, 71, 65, 84, 69]) = true := by rw [hfa]; decide
      clear hfa
      go_wp2_with fail
      refine (m_text (spw_text (x := c.name) HK3.out.at' (HB3.out.c (i + 3) _ HC.out.c3) HC.out.l3 (by have := textS_len c.name; omega))).mono ?_
      rintro e w4 ⟨rfl, T4, hk⟩
      have HK4 := Lib.hid (HK3.out.trans hk); clear hk
      have hl4 : lenS (bothW s3 (text c.name)) ≤ lenS s + 65537 + 65537 + 65537 + 65537 := lenS_le hl3 (textS_len _)
      have HB4 := Lib.hid (HTP HK4.out)
      go_wp2_with fail
      refine (m_texts (spw_texts (x := c.args) HK4.out.at' (HB4.out.c (i + 4) _ HC.out.c4) (HK4.out.keep goesArr HC.out.args HS.out) (by omega))).mono ?_
      rintro e w5 ⟨rfl, T5, hk⟩
      have HK5 := Lib.hid (HK4.out.trans hk); clear hk
      go_wp2_with fail
      refine bodyPost_end (results_none rfl _ _ _) rfl ?_
      exact ⟨rfl, T5, HK5.out.as (by rw [HFIN.out, HTAIL.out, bothS_assoc])⟩
  · have n1 : (t == [70, 85, 78, 67, 84, 73, 79, 78]) = false := beq_eq_false_iff_ne.2 fun e => hfa (.inl e)
    have n2 : (t == [65, 71, 71, 82, 69, 71, 65, 84, 69]) = false := beq_eq_false_iff_ne.2 fun e => hfa (.inr e)
    by_cases htt : t = wTable ∨ t = wType
    · have htail : tailW t (c.name, c.args) = text c.name := by unfold tailW; rw [if_neg hfa, if_pos htt]
      have HTAIL := Lib.hid htail; clear htail
      clear hfa
      rcases htt with htt | htt
      · have n3 : (t == [84, 65, 66, 76, 69]) = true := by rw [htt]; decide
        clear htt
        go_wp2_with fail
        refine (m_text (spw_text (x := c.name) HK3.out.at' (HB3.out.c (i + 3) _ HC.out.c3) HC.out.l3 (by have := textS_len c.name; omega))).mono ?_
        rintro e w4 ⟨rfl, T4, hk⟩
        have HK4 := Lib.hid (HK3.out.trans hk); clear hk
        go_wp2_with fail
        refine bodyPost_end (results_none rfl _ _ _) rfl ?_
        exact ⟨rfl, T4, HK4.out.as (by rw [HFIN.out, HTAIL.out])⟩
      · have n3 : (t == [84, 65, 66, 76, 69]) = false := by rw [htt]; decide
        have n4 : (t == [84, 89, 80, 69]) = true := by rw [htt]; decide
        clear htt
        go_wp2_with fail
        refine (m_text (spw_text (x := c.name) HK3.out.at' (HB3.out.c (i + 3) _ HC.out.c3) HC.out.l3 (by have := textS_len c.name; omega))).mono ?_
        rintro e w4 ⟨rfl, T4, hk⟩
        have HK4 := Lib.hid (HK3.out.trans hk); clear hk
        go_wp2_with fail
        refine bodyPost_end (results_none rfl _ _ _) rfl ?_
        exact ⟨rfl, T4, HK4.out.as (by rw [HFIN.out, HTAIL.out])⟩
    · have htail : tailW t (c.name, c.args) = .ok [] := by unfold tailW; rw [if_neg hfa, if_neg htt]
      have HTAIL := Lib.hid htail; clear htail
      have n3 : (t == [84, 65, 66, 76, 69]) = false := beq_eq_false_iff_ne.2 fun e => htt (.inl e)
      have n4 : (t == [84, 89, 80, 69]) = false := beq_eq_false_iff_ne.2 fun e => htt (.inr e)
      clear hfa htt
      go_wp2_with fail
      refine bodyPost_end (results_none rfl _ _ _) rfl ?_
      exact ⟨rfl, T3, HK3.out.as (by rw [HFIN.out, HTAIL.out, HNIL.out])⟩
set_option maxHeartbeats 4000000 in
set_option maxRecDepth 100000 in
theorem rdm_counts {S : Nat → Prop} {w : World} {X P i : Nat} {s : Wr} {vs : List Value} (h : StR S w X s) (hB : Bx (fun b => b = P) w P vs) (hi2 : vs[i + 2]? = some (.int .u16 ((0 : Nat) : Int))) (hi3 : vs[i + 3]? = some (.int .i32 0)) (hi4 : vs[i + 4]? = some (.int .i32 0)) (hSX : ∀ b, S b → b ≠ X) (hSP : ∀ b, S b → b ≠ P) (hPX : P ≠ X) :
    Calls Try.prog 48 #[.pointer (some ⟨X, 0, none⟩), .pointer (some ⟨P, i, none⟩)] w fun e w' => e = .returned (.tuple #[]) ∧ StR S w' X (gR getNum (gR getNum (gR getCons s))) ∧ Fr (fun b => b = X ∨ b = P) w w' ∧ Bx (fun b => b = P) w' P (((vs.set (i + 2) (.int .u16 ((gV 0 getCons s : Nat) : Int))).set (i + 3) (.int .i32 (gV 0 getNum (gR getCons s)))).set (i + 4) (.int .i32 (gV 0 getNum (gR getNum (gR getCons s))))) := by
  have HA := Lib.hid h; clear h
  have HB := Lib.hid hB; clear hB
  have HSX := Lib.hid hSX; have HSP := Lib.hid hSP; clear hSX hSP
  have HI2 := Lib.hid hi2; have HI3 := Lib.hid hi3; have HI4 := Lib.hid hi4; clear hi2 hi3 hi4
  go_enter Try.func48, Try.ntmps48
  go_wp2_with fail
  refine (m_level (spr_level (x0 := 0) HA.out HB.out HI2.out HSX.out HSP.out hPX)).mono ?_
  rintro e w1 ⟨rfl, hr, hf, hb⟩
  have HR1 := Lib.hid hr
  have HB1 := Lib.hid hb
  have HF1 := Lib.hid hf
  clear hr hf hb
  go_wp2_with fail
  refine (rdm_number HR1.out HB1.out (by rw [List.getElem?_set_ne (by omega)]; exact HI3.out) HSX.out HSP.out hPX).mono ?_
  rintro e w2 ⟨rfl, hr, hf, hb⟩
  have HR2 := Lib.hid hr
  have HB2 := Lib.hid hb
  have HF2 := Lib.hid (HF1.out.trans hf)
  clear hr hf hb
  go_wp2_with fail
  refine (rdm_number HR2.out HB2.out (by rw [List.getElem?_set_ne (by omega), List.getElem?_set_ne (by omega)]; exact HI4.out) HSX.out HSP.out hPX).mono ?_
  rintro e w3 ⟨rfl, hr, hf, hb⟩
  have HR3 := Lib.hid hr
  have HB3 := Lib.hid hb
  have HF3 := Lib.hid (HF2.out.trans hf)
  clear hr hf hb
  go_wp2_with fail
  refine bodyPost_end (results_none rfl _ _ _) rfl ?_
  exact ⟨rfl, HR3.out, HF3.out, HB3.out⟩
set_option maxHeartbeats 4000000 in
set_option maxRecDepth 100000 in
theorem wrm_counts {T : Nat → Prop} {w : World} {X P i : Nat} {s : Wr} {vs : List Value} {l : Nat} {r n : Int} (h : StW T w X s) (hB : Bx (fun b => b = P) w P vs) (hi2 : vs[i + 2]? = some (.int .u16 ((l : Nat) : Int))) (hi3 : vs[i + 3]? = some (.int .i32 r)) (hi4 : vs[i + 4]? = some (.int .i32 n)) (hT : ¬ T P) (hlv : l < 65536) (hr : -2147483648 ≤ r ∧ r ≤ 2147483647) (hn : -2147483648 ≤ n ∧ n ≤ 2147483647) (hl : lenS s + 16 ≤ 140737488355328) :
    Calls Try.prog 48 #[.pointer (some ⟨X, 0, none⟩), .pointer (some ⟨P, i, none⟩)] w fun e w' => e = .returned (.tuple #[]) ∧ ∃ T', SW w T w' X (bothW (bothW (bothW s (cons l)) (num4W r)) (num4W n)) T' := by
  have HA := Lib.hid (SW.refl h); clear h
  have hPl := hB.lt
  have HB := Lib.hid hB; clear hB
  have HI2 := Lib.hid hi2; have HI3 := Lib.hid hi3; have HI4 := Lib.hid hi4; clear hi2 hi3 hi4
  have HTP : ∀ {W T' s'}, SW w T W X s' T' → Bx (fun b => b = P) W P vs := fun k => k.keep goesBx HB.out fun b hb e => hT (hb ▸ e)
  go_enter Try.func48, Try.ntmps48
  go_wp2_with fail
  refine (m_level (spw_level (x := l) HA.out.at' (HB.out.c (i + 2) _ HI2.out) hlv (by have := consS_len l; omega))).mono ?_
  rintro e w1 ⟨rfl, T1, hk⟩
  have HK1 := Lib.hid (HA.out.trans hk); clear hk
  have hl1 : lenS (bothW s (cons l)) ≤ lenS s + 2 := lenS_le (Nat.le_refl _) (consS_len _)
  have hT1 : ¬ T1 P := HK1.out.not hPl hT
  have HB1 := Lib.hid (HTP HK1.out)
  go_wp2_with fail
  refine (wrm_number HK1.out.at' HB1.out HI3.out hT1 hr.1 hr.2 (by omega)).mono ?_
  rintro e w2 ⟨rfl, T2, hk⟩
  have HK2 := Lib.hid (HK1.out.trans hk); clear hk
  have hl2 : lenS (bothW (bothW s (cons l)) (num4W r)) ≤ lenS s + 2 + 4 := lenS_le hl1 (num4S_len _)
  have hT2 : ¬ T2 P := HK2.out.not hPl hT
  have HB2 := Lib.hid (HTP HK2.out)
  go_wp2_with fail
  refine (wrm_number HK2.out.at' HB2.out HI4.out hT2 hn.1 hn.2 (by omega)).mono ?_
  rintro e w3 ⟨rfl, T3, hk⟩
  have HK3 := Lib.hid (HK2.out.trans hk); clear hk
  go_wp2_with fail
  refine bodyPost_end (results_none rfl _ _ _) rfl ?_
  exact ⟨rfl, T3, HK3.out⟩
end Go.Proofs.Sb
