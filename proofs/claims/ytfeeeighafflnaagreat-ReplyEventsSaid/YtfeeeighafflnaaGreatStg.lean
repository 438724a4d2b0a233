/- Walks over reply.stream.change, reading and writing. Conditions: lengths up to 2^47. (written by gen_stg.py) -/
import Derived.Test.YtfeeeighafflnaaGreatSte
set_option linter.unusedVariables false
set_option linter.unusedSimpArgs false
namespace Sb
theorem tie_gV {α : Type} (d : α) (g : B → Res α) (s : Wr) : Tie g s (gV d g s) := by
  intro cur y rest h1 h2
  subst h1
  rw [gV_ok h2]
  rfl
theorem tie_pure {α : Type} (x : α) (s : Wr) : Tie (fun b => (.ok (x, b) : Res α)) s x := by
  intro cur y rest _ h2
  injection h2 with h2
  injection h2 with h2 _
theorem gR_pure {α : Type} (x : α) (s : Wr) : gR (fun b => (.ok (x, b) : Res α)) s = s := by cases s <;> rfl
theorem tail_f {t : B} (h : t = wFunction ∨ t = wAggregate) : tailR t = fun b => bindR (getText b) fun n b => bindR (getTexts b) fun a b => .ok ((n, a), b) := by
  funext b
  unfold tailR
  rw [if_pos h]
theorem tail_t {t : B} (h : ¬ (t = wFunction ∨ t = wAggregate)) (h2 : t = wTable ∨ t = wType) : tailR t = fun b => bindR (getText b) fun n b => .ok ((n, []), b) := by
  funext b
  unfold tailR
  rw [if_neg h, if_pos h2]
theorem tail_n {t : B} (h : ¬ (t = wFunction ∨ t = wAggregate)) (h2 : ¬ (t = wTable ∨ t = wType)) : tailR t = fun b => .ok (([], []), b) := by
  funext b
  unfold tailR
  rw [if_neg h, if_neg h2]
theorem chg_R {s s1 s2 s3 : Wr} {a t sp : B} {p : B × List B} (h1 : gR (wordR wdsW) s = s1) (ha : gV [] getText s = a) (h2 : gR (wordR wdsT) s1 = s2) (ht : gV [] getText s1 = t) (h3 : gR getText s2 = s3) (hs : gV [] getText s2 = sp) (hp : Tie (tailR t) s3 p) :
    Tie chgR s ⟨a, t, sp, p.1, p.2⟩ ∧ gR chgR s = gR (tailR t) s3 := by
  have t1 : Tie (wordR wdsW) s a := ha ▸ tie_word wdsW s
  have t2 : Tie (wordR wdsT) s1 t := ht ▸ tie_word wdsT s1
  have t3 : Tie getText s2 sp := hs ▸ tie_gV [] getText s2
  have e : chgR = fun b => bindR (wordR wdsW b) fun a b => bindR (wordR wdsT b) fun t b => bindR (getText b) fun s b => bindR (tailR t b) fun p b => .ok (⟨a, t, s, p.1, p.2⟩, b) := rfl
  rw [e]
  refine ⟨tie_bindT t1 ?_, ?_⟩
  · rw [h1]
    refine tie_bindT t2 ?_
    rw [h2]
    refine tie_bindT t3 ?_
    rw [h3]
    exact tie_bindT hp (tie_pure _ _)
  · rw [gR_bindT t1, h1, gR_bindT t2, h2, gR_bindT t3, h3, gR_bindT hp]
    exact gR_pure _ _
end Sb
namespace Go.Proofs.Sb
open Go.RowKit _root_.Sb
def chgSet (vs : List Value) (i : Nat) (c : Chg) (v : Value) : List Value := ((((vs.set i (.string (str c.what))).set (i + 1) (.string (str c.target))).set (i + 2) (.string (str c.space))).set (i + 3) (.string (str c.name))).set (i + 4) v
theorem arr_strs {w : World} {vs : Array Value} {ws : List B} {e : TypeId} {n : Nat} (hv : vs.toList = ws.map fun s => .string (str s)) (hl : ∀ s ∈ ws, s.length ≤ 9223372036854775807) (hn : n = ws.length) (hm : n ≤ maxLen) : Arr 1 strP (fun b => b = w.heap.size) (w.alloc (.cells vs e)) (some ⟨w.heap.size, 0, none⟩) n n ws := by
  refine arr_new w vs ws n ?_ hn hm rfl
  rw [hv]
  clear hv hn
  induction ws with
  | nil => exact rfl
  | cons x r ih => exact ⟨[.string (str x)], r.map fun s => .string (str s), rfl, rfl, ⟨rfl, hl x (List.mem_cons_self ..)⟩, ih fun s h => hl s (List.mem_cons_of_mem _ h)⟩
set_option maxHeartbeats 4000000 in
set_option maxRecDepth 100000 in
theorem rdm_change {S : Nat → Prop} {w : World} {X P i : Nat} {s : Wr} {vs : List Value} (h : StR S w X s) (hB : Bx (fun b => b = P) w P vs) (hi0 : vs[i]? = some (.string (str []))) (hi1 : vs[i + 1]? = some (.string (str []))) (hi2 : vs[i + 2]? = some (.string (str []))) (hi3 : vs[i + 3]? = some (.string (str []))) (hi4 : vs[i + 4]? = some (.slice none 0 0)) (hSX : ∀ b, S b → b ≠ X) (hSP : ∀ b, S b → b ≠ P) (hPX : P ≠ X) :
    Calls Tryz.prog 55 #[.pointer (some ⟨X, 0, none⟩), .pointer (some ⟨P, i, none⟩)] w fun e w' => e = .returned (.tuple #[]) ∧ StR S w' X (gR chgR s) ∧ Fr (fun b => b = X ∨ b = P) w w' ∧ ∃ c A1 n1 c1, Bx (fun b => b = P) w' P (chgSet vs i c (.slice A1 n1 c1)) ∧ Arr 1 strP (fun b => w.heap.size ≤ b) w' A1 n1 c1 c.args ∧ Tie chgR s c := by
  have hXl := h.lt
  have HA := Lib.hid h; clear h
  have hPl := hB.lt
  have HB := Lib.hid hB; clear hB
  have HSX := Lib.hid hSX; have HSP := Lib.hid hSP; clear hSX hSP
  have HI0 := Lib.hid hi0; have HI1 := Lib.hid hi1; have HI2 := Lib.hid hi2; have HI3 := Lib.hid hi3; have HI4 := Lib.hid hi4; clear hi0 hi1 hi2 hi3 hi4
  go_enter Tryz.func55, Tryz.ntmps55
  go_wp2_with fail
  refine (rdm_word (ws := wdsW) (S2 := fun b => b = w.heap.size) (HA.out.after (by repeat (first | exact Below.refl _ _ | assumption | refine Below.drew ?_ | refine below_drewN ?_ _ | refine Below.alloc ?_ (by simp) _ | refine Below.setCell ?_ (by simp) _))) (HB.out.after (by repeat (first | exact Below.refl _ _ | assumption | refine Below.drew ?_ | refine below_drewN ?_ _ | refine Below.alloc ?_ (by simp) _ | refine Below.setCell ?_ (by simp) _))) HI0.out HSX.out HSP.out hPX (arr_strs (by rfl) (by decide) rfl (by decide)) (fun b hb => by omega)).mono ?_
  rintro e w1 ⟨rfl, hr, hf, hb⟩
  have HR1 := Lib.hid hr
  have HB1 := Lib.hid hb
  have HF1 : Hid (Fr (fun b => b = X ∨ b = P) w w1) := Lib.hid ((Fr.of_below (by repeat (first | exact Below.refl _ _ | assumption | refine Below.drew ?_ | refine below_drewN ?_ _ | refine Below.alloc ?_ (by simp) _ | refine Below.setCell ?_ (by simp) _))).trans hf)
  clear hr hf hb
  obtain ⟨s1, hs1⟩ : ∃ s1, gR (wordR wdsW) s = s1 := ⟨_, rfl⟩
  obtain ⟨a, ha⟩ : ∃ a, gV [] getText s = a := ⟨_, rfl⟩
  rw [hs1] at HR1
  rw [ha] at HB1
  have HS1 := Lib.hid hs1; have HVA := Lib.hid ha; clear hs1 ha
  have hx1 := HR1.out.lt
  have hp1 := HB1.out.lt
  go_wp2_with fail
  refine (rdm_word (ws := wdsT) (S2 := fun b => b = w1.heap.size) (HR1.out.after (by repeat (first | exact Below.refl _ _ | assumption | refine Below.drew ?_ | refine below_drewN ?_ _ | refine Below.alloc ?_ (by simp) _ | refine Below.setCell ?_ (by simp) _))) (HB1.out.after (by repeat (first | exact Below.refl _ _ | assumption | refine Below.drew ?_ | refine below_drewN ?_ _ | refine Below.alloc ?_ (by simp) _ | refine Below.setCell ?_ (by simp) _))) (by rw [List.getElem?_set_ne (by omega)]; exact HI1.out) HSX.out HSP.out hPX (arr_strs (by rfl) (by decide) rfl (by decide)) (fun b hb => by omega)).mono ?_
  rintro e w2 ⟨rfl, hr, hf, hb⟩
  have HR2 := Lib.hid hr
  have HB2 := Lib.hid hb
  have HF2 : Hid (Fr (fun b => b = X ∨ b = P) w w2) := Lib.hid (HF1.out.trans ((Fr.of_below (by repeat (first | exact Below.refl _ _ | assumption | refine Below.drew ?_ | refine below_drewN ?_ _ | refine Below.alloc ?_ (by simp) _ | refine Below.setCell ?_ (by simp) _))).trans hf))
  clear hr hf hb
  obtain ⟨s2, hs2⟩ : ∃ s2, gR (wordR wdsT) s1 = s2 := ⟨_, rfl⟩
  obtain ⟨t, ht⟩ : ∃ t, gV [] getText s1 = t := ⟨_, rfl⟩
  rw [hs2] at HR2
  rw [ht] at HB2
  have HS2 := Lib.hid hs2; have HVT := Lib.hid ht; clear hs2 ht
  go_wp2_with fail
  refine (m_text (spr_text (x0 := []) HR2.out HB2.out (by rw [List.getElem?_set_ne (by omega), List.getElem?_set_ne (by omega)]; exact HI2.out) HSX.out HSP.out hPX)).mono ?_
  rintro e w3 ⟨rfl, hr, hf, hb⟩
  have HR3 := Lib.hid hr
  have HB3 := Lib.hid hb
  have HF3 : Hid (Fr (fun b => b = X ∨ b = P) w w3) := Lib.hid (HF2.out.trans hf)
  clear hr hf hb
  obtain ⟨s3, hs3⟩ : ∃ s3, gR getText s2 = s3 := ⟨_, rfl⟩
  obtain ⟨sp, hsp⟩ : ∃ sp, gV [] getText s2 = sp := ⟨_, rfl⟩
  rw [hs3] at HR3
  rw [hsp] at HB3
  have HS3 := Lib.hid hs3; have HVS := Lib.hid hsp; clear hs3 hsp
  have hil : i + 4 < vs.length := vs_lt HI4.out
  have c1 := HB3.out.c (i + 1) (.string (str t)) (by rw [List.getElem?_set_ne (by omega), List.getElem?_set_self (by rw [List.length_set]; omega)])
  have hz3 := HF3.out.size
  by_cases hfa : t = wFunction ∨ t = wAggregate
  · have HFA := Lib.hid hfa
    rcases hfa with hfa | hfa
    · have n1 : (t == [70, 85, 78, 67, 84, 73, 79, 78]) = true := by rw [hfa]; decide
      clear hfa
      go_wp2_with fail
      refine (m_text (spr_text (x0 := []) HR3.out HB3.out (by repeat rw [List.getElem?_set_ne (by omega)]
                                                              exact HI3.out) HSX.out HSP.out hPX)).mono ?_
      rintro e w4 ⟨rfl, hr, hf, hb⟩
      have HR4 := Lib.hid hr
      have HB4 := Lib.hid hb
      have HF4 : Hid (Fr (fun b => b = X ∨ b = P) w w4) := Lib.hid (HF3.out.trans hf)
      clear hr hf hb
      go_wp2_with fail
      refine (m_texts (spr_texts HR4.out HB4.out (by repeat rw [List.getElem?_set_ne (by omega)]
                                                     exact HI4.out) HSX.out HSP.out hPX)).mono ?_
      rintro e w5 ⟨rfl, hr, hf, A1, m1, d1, hb, harr⟩
      have HR5 := Lib.hid hr
      have HB5 := Lib.hid hb
      have HARR := Lib.hid harr
      have hz4 := HF4.out.size
      have HF5 : Hid (Fr (fun b => b = X ∨ b = P) w w5) := Lib.hid (HF4.out.trans hf)
      clear hr hf hb harr
      go_wp2_with fail
      refine bodyPost_end (results_none rfl _ _ _) rfl ?_
      have htx := tie_gV [] getText s3
      have htt := tie_gV [] getTexts (gR getText s3)
      have hc := chg_R HS1.out HVA.out HS2.out HVT.out HS3.out HVS.out (p := (gV [] getText s3, gV [] getTexts (gR getText s3))) (by rw [tail_f HFA.out]; exact tie_bindT htx (tie_bindT htt (tie_pure _ _)))
      refine ⟨rfl, ?_, HF5.out, ⟨a, t, sp, gV [] getText s3, gV [] getTexts (gR getText s3)⟩, A1, m1, d1, HB5.out, HARR.out.mono fun b hb _ => by omega, hc.1⟩
      rw [hc.2, tail_f HFA.out, gR_bindT htx, gR_bindT htt, gR_pure]
      exact HR5.out
    · have n1 : (t == [70, 85, 78, 67, 84, 73, 79, 78]) = false := by rw [hfa]; decide
      have n2 : (t == [65, 71, 71, 82, 69, 71, 65, 84, 69]) = true := by rw [hfa]; decide
      clear hfa
      go_wp2_with fail
      refine (m_text (spr_text (x0 := []) HR3.out HB3.out (by repeat rw [List.getElem?_set_ne (by omega)]
                                                              exact HI3.out) HSX.out HSP.out hPX)).mono ?_
      rintro e w4 ⟨rfl, hr, hf, hb⟩
      have HR4 := Lib.hid hr
      have HB4 := Lib.hid hb
      have HF4 : Hid (Fr (fun b => b = X ∨ b = P) w w4) := Lib.hid (HF3.out.trans hf)
      clear hr hf hb
      go_wp2_with fail
      refine (m_texts (spr_texts HR4.out HB4.out (by repeat rw [List.getElem?_set_ne (by omega)]
                                                     exact HI4.out) HSX.out HSP.out hPX)).mono ?_
      rintro e w5 ⟨rfl, hr, hf, A1, m1, d1, hb, harr⟩
      have HR5 := Lib.hid hr
      have HB5 := Lib.hid hb
      have HARR := Lib.hid harr
      have hz4 := HF4.out.size
      have HF5 : Hid (Fr (fun b => b = X ∨ b = P) w w5) := Lib.hid (HF4.out.trans hf)
      clear hr hf hb harr
      go_wp2_with fail
      refine bodyPost_end (results_none rfl _ _ _) rfl ?_
      have htx := tie_gV [] getText s3
      have htt := tie_gV [] getTexts (gR getText s3)
      have hc := chg_R HS1.out HVA.out HS2.out HVT.out HS3.out HVS.out (p := (gV [] getText s3, gV [] getTexts (gR getText s3))) (by rw [tail_f HFA.out]; exact tie_bindT htx (tie_bindT htt (tie_pure _ _)))
      refine ⟨rfl, ?_, HF5.out, ⟨a, t, sp, gV [] getText s3, gV [] getTexts (gR getText s3)⟩, A1, m1, d1, HB5.out, HARR.out.mono fun b hb _ => by omega, hc.1⟩
      rw [hc.2, tail_f HFA.out, gR_bindT htx, gR_bindT htt, gR_pure]
      exact HR5.out
  · have n1 : (t == [70, 85, 78, 67, 84, 73, 79, 78]) = false := beq_eq_false_iff_ne.2 fun e => hfa (.inl e)
    have n2 : (t == [65, 71, 71, 82, 69, 71, 65, 84, 69]) = false := beq_eq_false_iff_ne.2 fun e => hfa (.inr e)
    have HFA := Lib.hid hfa; clear hfa
    by_cases htt : t = wTable ∨ t = wType
    · have HTT := Lib.hid htt
      rcases htt with htt | htt
      · have n3 : (t == [84, 65, 66, 76, 69]) = true := by rw [htt]; decide
        clear htt
        go_wp2_with fail
        refine (m_text (spr_text (x0 := []) HR3.out HB3.out (by repeat rw [List.getElem?_set_ne (by omega)]
                                                                exact HI3.out) HSX.out HSP.out hPX)).mono ?_
        rintro e w4 ⟨rfl, hr, hf, hb⟩
        have HR4 := Lib.hid hr
        have HB4 := Lib.hid hb
        have HF4 : Hid (Fr (fun b => b = X ∨ b = P) w w4) := Lib.hid (HF3.out.trans hf)
        clear hr hf hb
        go_wp2_with fail
        refine bodyPost_end (results_none rfl _ _ _) rfl ?_
        have htx := tie_gV [] getText s3
        have hc := chg_R HS1.out HVA.out HS2.out HVT.out HS3.out HVS.out (p := (gV [] getText s3, [])) (by rw [tail_t HFA.out HTT.out]; exact tie_bindT htx (tie_pure _ _))
        refine ⟨rfl, ?_, HF4.out, ⟨a, t, sp, gV [] getText s3, []⟩, none, 0, 0, ?_, Arr.nil, hc.1⟩
        · rw [hc.2, tail_t HFA.out HTT.out, gR_bindT htx, gR_pure]
          exact HR4.out
        · exact bx_same1 HB4.out (by repeat rw [List.getElem?_set_ne (by omega)]
                                     exact HI4.out)
      · have n3 : (t == [84, 65, 66, 76, 69]) = false := by rw [htt]; decide
        have n4 : (t == [84, 89, 80, 69]) = true := by rw [htt]; decide
        clear htt
        go_wp2_with fail
        refine (m_text (spr_text (x0 := []) HR3.out HB3.out (by repeat rw [List.getElem?_set_ne (by omega)]
                                                                exact HI3.out) HSX.out HSP.out hPX)).mono ?_
        rintro e w4 ⟨rfl, hr, hf, hb⟩
        have HR4 := Lib.hid hr
        have HB4 := Lib.hid hb
        have HF4 : Hid (Fr (fun b => b = X ∨ b = P) w w4) := Lib.hid (HF3.out.trans hf)
        clear hr hf hb
        go_wp2_with fail
        refine bodyPost_end (results_none rfl _ _ _) rfl ?_
        have htx := tie_gV [] getText s3
        have hc := chg_R HS1.out HVA.out HS2.out HVT.out HS3.out HVS.out (p := (gV [] getText s3, [])) (by rw [tail_t HFA.out HTT.out]; exact tie_bindT htx (tie_pure _ _))
        refine ⟨rfl, ?_, HF4.out, ⟨a, t, sp, gV [] getText s3, []⟩, none, 0, 0, ?_, Arr.nil, hc.1⟩
        · rw [hc.2, tail_t HFA.out HTT.out, gR_bindT htx, gR_pure]
          exact HR4.out
        · exact bx_same1 HB4.out (by repeat rw [List.getElem?_set_ne (by omega)]
                                     exact HI4.out)
    · have n3 : (t == [84, 65, 66, 76, 69]) = false := beq_eq_false_iff_ne.2 fun e => htt (.inl e)
      have n4 : (t == [84, 89, 80, 69]) = false := beq_eq_false_iff_ne.2 fun e => htt (.inr e)
      have HTT := Lib.hid htt; clear htt
      go_wp2_with fail
      refine bodyPost_end (results_none rfl _ _ _) rfl ?_
      have hc := chg_R HS1.out HVA.out HS2.out HVT.out HS3.out HVS.out (p := ([], [])) (by rw [tail_n HFA.out HTT.out]; exact tie_pure _ _)
      refine ⟨rfl, ?_, HF3.out, ⟨a, t, sp, [], []⟩, none, 0, 0, ?_, Arr.nil, hc.1⟩
      · rw [hc.2, tail_n HFA.out HTT.out, gR_pure]
        exact HR3.out
      · exact bx_same2 HB3.out (by repeat rw [List.getElem?_set_ne (by omega)]
                                   exact HI3.out) (by repeat rw [List.getElem?_set_ne (by omega)]
                                                      exact HI4.out)
end Go.Proofs.Sb

/- Walks over reply.stream.change, writing; counts, reading and writing. Conditions: lengths up to 2^47. (written by gen_sth.py) -/
namespace Sb
theorem bothS_assoc (a b c : Wr) : bothW (bothW a b) c = bothW a (bothW b c) := by cases a <;> cases b <;> cases c <;> simp [bothW]
theorem bothS_nil (s : Wr) : bothW s (.ok []) = s := by cases s <;> simp [bothW]
theorem textS_len (x : B) : lenS (text x) ≤ 65537 := by
  unfold text
  split
  · show 0 ≤ 65537; decide
  · show (enc 2 x.length ++ x).length ≤ 65537
    rw [List.length_append, enc_length]
    omega
theorem wordS_len (ws : List B) (x : B) : lenS (wordW ws x) ≤ 65537 := by
  unfold wordW
  split
  · exact textS_len x
  · show 0 ≤ 65537; decide
theorem consS_len (x : Nat) : lenS (cons x) ≤ 2 := by
  unfold cons
  split
  · show 0 ≤ 2; decide
  · show (enc 2 x).length ≤ 2
    rw [enc_length]
    exact Nat.le_refl _
theorem num4S_len (x : Int) : lenS (num4W x) ≤ 4 := by
  show (enc 4 _).length ≤ 4
  rw [enc_length]
  exact Nat.le_refl _
theorem lenS_le {s r : Wr} {n m : Nat} (hs : lenS s ≤ n) (hr : lenS r ≤ m) : lenS (bothW s r) ≤ n + m := Nat.le_trans (lenS_both s r) (by omega)
end Sb
namespace Go.Proofs.Sb
open Go.RowKit _root_.Sb
/-- a change's cells and its arguments -/
structure ChgC (S : Nat → Prop) (w : World) (vs : List Value) (i : Nat) (c : Chg) (A1 : Option Addr) (n1 d1 : Nat) : Prop where
  c0 : vs[i]? = some (.string (str c.what))
  c1 : vs[i + 1]? = some (.string (str c.target))
  c2 : vs[i + 2]? = some (.string (str c.space))
  c3 : vs[i + 3]? = some (.string (str c.name))
  c4 : vs[i + 4]? = some (.slice A1 n1 d1)
  args : Arr 1 strP S w A1 n1 d1 c.args
  l0 : c.what.length ≤ 9223372036854775807
  l1 : c.target.length ≤ 9223372036854775807
  l2 : c.space.length ≤ 9223372036854775807
  l3 : c.name.length ≤ 9223372036854775807
set_option maxHeartbeats 4000000 in
set_option maxRecDepth 100000 in
theorem wrm_change {T S : Nat → Prop} {w : World} {X P i : Nat} {s : Wr} {vs : List Value} {c : Chg} {A1 : Option Addr} {n1 d1 : Nat} (h : StW T w X s) (hB : Bx (fun b => b = P) w P vs) (hC : ChgC S w vs i c A1 n1 d1) (hT : ¬ T P) (hS : ∀ b, S b → ¬ T b) (hl : lenS s + 262148 + lenS (texts c.args) ≤ 140737488355328) :
    Calls Tryz.prog 55 #[.pointer (some ⟨X, 0, none⟩), .pointer (some ⟨P, i, none⟩)] w fun e w' => e = .returned (.tuple #[]) ∧ ∃ T', SW w T w' X (bothW s (chgW c)) T' := by
  have HA := Lib.hid (SW.refl h); clear h
  have hPl := hB.lt
  have HB := Lib.hid hB; clear hB
  have HC := Lib.hid hC; clear hC
  have HS := Lib.hid hS; clear hS
  have HTP : ∀ {W T' s'}, SW w T W X s' T' → Bx (fun b => b = P) W P vs := fun k => k.keep goesBx HB.out fun b hb e => hT (hb ▸ e)
  go_enter Tryz.func55, Tryz.ntmps55
  go_wp2_with fail
  refine (wrm_word (ws := wdsW) (x := c.what) (S2 := fun b => b = w.heap.size) ((HA.out.after (by repeat (first | exact Below.refl _ _ | assumption | refine Below.drew ?_ | refine below_drewN ?_ _ | refine Below.alloc ?_ (by simp) _ | refine Below.setCell ?_ (by simp) _)))).at' ((HB.out.after (by repeat (first | exact Below.refl _ _ | assumption | refine Below.drew ?_ | refine below_drewN ?_ _ | refine Below.alloc ?_ (by simp) _ | refine Below.setCell ?_ (by simp) _))).c i _ HC.out.c0) hT HC.out.l0 (by have := textS_len c.what; omega) (arr_strs (by rfl) (by decide) rfl (by decide)) (fun b hb e => by have := HA.out.at'.lt b e; omega)).mono ?_
  rintro e w1 ⟨rfl, T1, hk⟩
  have HK1 := Lib.hid ((HA.out.after (by repeat (first | exact Below.refl _ _ | assumption | refine Below.drew ?_ | refine below_drewN ?_ _ | refine Below.alloc ?_ (by simp) _ | refine Below.setCell ?_ (by simp) _))).trans hk); clear hk
  obtain ⟨s1, hs1⟩ : ∃ s1, bothW s (wordW wdsW c.what) = s1 := ⟨_, rfl⟩
  have hl1 : lenS s1 ≤ lenS s + 65537 := hs1 ▸ lenS_le (Nat.le_refl _) (wordS_len _ _)
  rw [hs1] at HK1
  have HE1 := Lib.hid hs1; clear hs1
  have hT1 : ¬ T1 P := HK1.out.not hPl hT
  have HB1 := Lib.hid (HTP HK1.out)
  go_wp2_with fail
  refine (wrm_word (ws := wdsT) (x := c.target) (S2 := fun b => b = w1.heap.size) ((HK1.out.after (by repeat (first | exact Below.refl _ _ | assumption | refine Below.drew ?_ | refine below_drewN ?_ _ | refine Below.alloc ?_ (by simp) _ | refine Below.setCell ?_ (by simp) _)))).at' ((HB1.out.after (by repeat (first | exact Below.refl _ _ | assumption | refine Below.drew ?_ | refine below_drewN ?_ _ | refine Below.alloc ?_ (by simp) _ | refine Below.setCell ?_ (by simp) _))).c (i + 1) _ HC.out.c1) hT1 HC.out.l1 (by have := textS_len c.target; omega) (arr_strs (by rfl) (by decide) rfl (by decide)) (fun b hb e => by have := HK1.out.at'.lt b e; omega)).mono ?_
  rintro e w2 ⟨rfl, T2, hk⟩
  have HK2 := Lib.hid ((HK1.out.after (by repeat (first | exact Below.refl _ _ | assumption | refine Below.drew ?_ | refine below_drewN ?_ _ | refine Below.alloc ?_ (by simp) _ | refine Below.setCell ?_ (by simp) _))).trans hk); clear hk
  obtain ⟨s2, hs2⟩ : ∃ s2, bothW s1 (wordW wdsT c.target) = s2 := ⟨_, rfl⟩
  have hl2 : lenS s2 ≤ lenS s + 65537 + 65537 := hs2 ▸ lenS_le hl1 (wordS_len _ _)
  rw [hs2] at HK2
  have HE2 := Lib.hid hs2; clear hs2
  have hT2 : ¬ T2 P := HK2.out.not hPl hT
  have HB2 := Lib.hid (HTP HK2.out)
  go_wp2_with fail
  refine (m_text (spw_text (x := c.space) HK2.out.at' (HB2.out.c (i + 2) _ HC.out.c2) HC.out.l2 (by have := textS_len c.space; omega))).mono ?_
  rintro e w3 ⟨rfl, T3, hk⟩
  have HK3 := Lib.hid (HK2.out.trans hk); clear hk
  obtain ⟨s3, hs3⟩ : ∃ s3, bothW s2 (text c.space) = s3 := ⟨_, rfl⟩
  have hl3 : lenS s3 ≤ lenS s + 65537 + 65537 + 65537 := hs3 ▸ lenS_le hl2 (textS_len _)
  rw [hs3] at HK3
  have HE3 := Lib.hid hs3; clear hs3
  have HB3 := Lib.hid (HTP HK3.out)
  have hfin : bothW s (chgW c) = bothW s3 (tailW c.target (c.name, c.args)) := by
    unfold chgW
    rw [← HE3.out, ← HE2.out, ← HE1.out, bothS_assoc, bothS_assoc, bothS_assoc]
  have HFIN := Lib.hid hfin; clear hfin
  have c1 := HB3.out.c (i + 1) _ HC.out.c1
  have hnil : bothW s3 (.ok []) = s3 := bothS_nil s3
  have HNIL := Lib.hid hnil; clear hnil
  obtain ⟨t, ht⟩ : ∃ t, c.target = t := ⟨_, rfl⟩
  rw [ht] at c1 HFIN
  clear ht
  by_cases hfa : t = wFunction ∨ t = wAggregate
  · have htail : tailW t (c.name, c.args) = bothW (text c.name) (texts c.args) := by unfold tailW; rw [if_pos hfa]
    have HTAIL := Lib.hid htail; clear htail
    rcases hfa with hfa | hfa
    · have n1 : (t == [70, 85, 78, 67, 84, 73, 79, 78]) = true := by rw [hfa]; decide
      clear hfa
      go_wp2_with fail
      refine (m_text (spw_text (x := c.name) HK3.out.at' (HB3.out.c (i + 3) _ HC.out.c3) HC.out.l3 (by have := textS_len c.name; omega))).mono ?_
      rintro e w4 ⟨rfl, T4, hk⟩
      have HK4 := Lib.hid (HK3.out.trans hk); clear hk
      have hl4 : lenS (bothW s3 (text c.name)) ≤ lenS s + 65537 + 65537 + 65537 + 65537 := lenS_le hl3 (textS_len _)
      have HB4 := Lib.hid (HTP HK4.out)
      go_wp2_with fail
      refine (m_texts (spw_texts (x := c.args) HK4.out.at' (HB4.out.c (i + 4) _ HC.out.c4) (HK4.out.keep goesArr HC.out.args HS.out) (by omega))).mono ?_
      rintro e w5 ⟨rfl, T5, hk⟩
      have HK5 := Lib.hid (HK4.out.trans hk); clear hk
      go_wp2_with fail
      refine bodyPost_end (results_none rfl _ _ _) rfl ?_
      exact ⟨rfl, T5, HK5.out.as (by rw [HFIN.out, HTAIL.out, bothS_assoc])⟩
    · have n1 : (t == [70, 85, 78, 67, 84, 73, 79, 78]) = false := by rw [hfa]; decide
      have n2 : (t == [65, 71, 71, 82, 69, 71, 65, 84, 69]) = true := by rw [hfa]; decide
      clear hfa
      go_wp2_with fail
      refine (m_text (spw_text (x := c.name) HK3.out.at' (HB3.out.c (i + 3) _ HC.out.c3) HC.out.l3 (by have := textS_len c.name; omega))).mono ?_
      rintro e w4 ⟨rfl, T4, hk⟩
      have HK4 := Lib.hid (HK3.out.trans hk); clear hk
      have hl4 : lenS (bothW s3 (text c.name)) ≤ lenS s + 65537 + 65537 + 65537 + 65537 := lenS_le hl3 (textS_len _)
      have HB4 := Lib.hid (HTP HK4.out)
      go_wp2_with fail
      refine (m_texts (spw_texts (x := c.args) HK4.out.at' (HB4.out.c (i + 4) _ HC.out.c4) (HK4.out.keep goesArr HC.out.args HS.out) (by omega))).mono ?_
      rintro e w5 ⟨rfl, T5, hk⟩
      have HK5 := Lib.hid (HK4.out.trans hk); clear hk
      go_wp2_with fail
      refine bodyPost_end (results_none rfl _ _ _) rfl ?_
      exact ⟨rfl, T5, HK5.out.as (by rw [HFIN.out, HTAIL.out, bothS_assoc])⟩
  · have n1 : (t == [70, 85, 78, 67, 84, 73, 79, 78]) = false := beq_eq_false_iff_ne.2 fun e => hfa (.inl e)
    have n2 : (t == [65, 71, 71, 82, 69, 71, 65, 84, 69]) = false := beq_eq_false_iff_ne.2 fun e => hfa (.inr e)
    by_cases htt : t = wTable ∨ t = wType
    · have htail : tailW t (c.name, c.args) = text c.name := by unfold tailW; rw [if_neg hfa, if_pos htt]
      have HTAIL := Lib.hid htail; clear htail
      clear hfa
      rcases htt with htt | htt
      · have n3 : (t == [84, 65, 66, 76, 69]) = true := by rw [htt]; decide
        clear htt
        go_wp2_with fail
        refine (m_text (spw_text (x := c.name) HK3.out.at' (HB3.out.c (i + 3) _ HC.out.c3) HC.out.l3 (by have := textS_len c.name; omega))).mono ?_
        rintro e w4 ⟨rfl, T4, hk⟩
        have HK4 := Lib.hid (HK3.out.trans hk); clear hk
        go_wp2_with fail
        refine bodyPost_end (results_none rfl _ _ _) rfl ?_
        exact ⟨rfl, T4, HK4.out.as (by rw [HFIN.out, HTAIL.out])⟩
      · have n3 : (t == [84, 65, 66, 76, 69]) = false := by rw [htt]; decide
        have n4 : (t == [84, 89, 80, 69]) = true := by rw [htt]; decide
        clear htt
        go_wp2_with fail
        refine (m_text (spw_text (x := c.name) HK3.out.at' (HB3.out.c (i + 3) _ HC.out.c3) HC.out.l3 (by have := textS_len c.name; omega))).mono ?_
        rintro e w4 ⟨rfl, T4, hk⟩
        have HK4 := Lib.hid (HK3.out.trans hk); clear hk
        go_wp2_with fail
        refine bodyPost_end (results_none rfl _ _ _) rfl ?_
        exact ⟨rfl, T4, HK4.out.as (by rw [HFIN.out, HTAIL.out])⟩
    · have htail : tailW t (c.name, c.args) = .ok [] := by unfold tailW; rw [if_neg hfa, if_neg htt]
      have HTAIL := Lib.hid htail; clear htail
      have n3 : (t == [84, 65, 66, 76, 69]) = false := beq_eq_false_iff_ne.2 fun e => htt (.inl e)
      have n4 : (t == [84, 89, 80, 69]) = false := beq_eq_false_iff_ne.2 fun e => htt (.inr e)
      clear hfa htt
      go_wp2_with fail
      refine bodyPost_end (results_none rfl _ _ _) rfl ?_
      exact ⟨rfl, T3, HK3.out.as (by rw [HFIN.out, HTAIL.out, HNIL.out])⟩
set_option maxHeartbeats 4000000 in
set_option maxRecDepth 100000 in
theorem rdm_counts {S : Nat → Prop} {w : World} {X P i : Nat} {s : Wr} {vs : List Value} (h : StR S w X s) (hB : Bx (fun b => b = P) w P vs) (hi2 : vs[i + 2]? = some (.int .u16 ((0 : Nat) : Int))) (hi3 : vs[i + 3]? = some (.int .i32 0)) (hi4 : vs[i + 4]? = some (.int .i32 0)) (hSX : ∀ b, S b → b ≠ X) (hSP : ∀ b, S b → b ≠ P) (hPX : P ≠ X) :
    Calls Tryz.prog 45 #[.pointer (some ⟨X, 0, none⟩), .pointer (some ⟨P, i, none⟩)] w fun e w' => e = .returned (.tuple #[]) ∧ StR S w' X (gR getNum (gR getNum (gR getCons s))) ∧ Fr (fun b => b = X ∨ b = P) w w' ∧ Bx (fun b => b = P) w' P (((vs.set (i + 2) (.int .u16 ((gV 0 getCons s : Nat) : Int))).set (i + 3) (.int .i32 (gV 0 getNum (gR getCons s)))).set (i + 4) (.int .i32 (gV 0 getNum (gR getNum (gR getCons s))))) := by
  have HA := Lib.hid h; clear h
  have HB := Lib.hid hB; clear hB
  have HSX := Lib.hid hSX; have HSP := Lib.hid hSP; clear hSX hSP
  have HI2 := Lib.hid hi2; have HI3 := Lib.hid hi3; have HI4 := Lib.hid hi4; clear hi2 hi3 hi4
  go_enter Tryz.func45, Tryz.ntmps45
  go_wp2_with fail
  refine (m_level (spr_level (x0 := 0) HA.out HB.out HI2.out HSX.out HSP.out hPX)).mono ?_
  rintro e w1 ⟨rfl, hr, hf, hb⟩
  have HR1 := Lib.hid hr
  have HB1 := Lib.hid hb
  have HF1 := Lib.hid hf
  clear hr hf hb
  go_wp2_with fail
  refine (rdm_number HR1.out HB1.out (by rw [List.getElem?_set_ne (by omega)]; exact HI3.out) HSX.out HSP.out hPX).mono ?_
  rintro e w2 ⟨rfl, hr, hf, hb⟩
  have HR2 := Lib.hid hr
  have HB2 := Lib.hid hb
  have HF2 := Lib.hid (HF1.out.trans hf)
  clear hr hf hb
  go_wp2_with fail
  refine (rdm_number HR2.out HB2.out (by rw [List.getElem?_set_ne (by omega), List.getElem?_set_ne (by omega)]; exact HI4.out) HSX.out HSP.out hPX).mono ?_
  rintro e w3 ⟨rfl, hr, hf, hb⟩
  have HR3 := Lib.hid hr
  have HB3 := Lib.hid hb
  have HF3 := Lib.hid (HF2.out.trans hf)
  clear hr hf hb
  go_wp2_with fail
  refine bodyPost_end (results_none rfl _ _ _) rfl ?_
  exact ⟨rfl, HR3.out, HF3.out, HB3.out⟩
set_option maxHeartbeats 4000000 in
set_option maxRecDepth 100000 in
theorem wrm_counts {T : Nat → Prop} {w : World} {X P i : Nat} {s : Wr} {vs : List Value} {l : Nat} {r n : Int} (h : StW T w X s) (hB : Bx (fun b => b = P) w P vs) (hi2 : vs[i + 2]? = some (.int .u16 ((l : Nat) : Int))) (hi3 : vs[i + 3]? = some (.int .i32 r)) (hi4 : vs[i + 4]? = some (.int .i32 n)) (hT : ¬ T P) (hlv : l < 65536) (hr : -2147483648 ≤ r ∧ r ≤ 2147483647) (hn : -2147483648 ≤ n ∧ n ≤ 2147483647) (hl : lenS s + 16 ≤ 140737488355328) :
    Calls Tryz.prog 45 #[.pointer (some ⟨X, 0, none⟩), .pointer (some ⟨P, i, none⟩)] w fun e w' => e = .returned (.tuple #[]) ∧ ∃ T', SW w T w' X (bothW (bothW (bothW s (cons l)) (num4W r)) (num4W n)) T' := by
  have HA := Lib.hid (SW.refl h); clear h
  have hPl := hB.lt
  have HB := Lib.hid hB; clear hB
  have HI2 := Lib.hid hi2; have HI3 := Lib.hid hi3; have HI4 := Lib.hid hi4; clear hi2 hi3 hi4
  have HTP : ∀ {W T' s'}, SW w T W X s' T' → Bx (fun b => b = P) W P vs := fun k => k.keep goesBx HB.out fun b hb e => hT (hb ▸ e)
  go_enter Tryz.func45, Tryz.ntmps45
  go_wp2_with fail
  refine (m_level (spw_level (x := l) HA.out.at' (HB.out.c (i + 2) _ HI2.out) hlv (by have := consS_len l; omega))).mono ?_
  rintro e w1 ⟨rfl, T1, hk⟩
  have HK1 := Lib.hid (HA.out.trans hk); clear hk
  have hl1 : lenS (bothW s (cons l)) ≤ lenS s + 2 := lenS_le (Nat.le_refl _) (consS_len _)
  have hT1 : ¬ T1 P := HK1.out.not hPl hT
  have HB1 := Lib.hid (HTP HK1.out)
  go_wp2_with fail
  refine (wrm_number HK1.out.at' HB1.out HI3.out hT1 hr.1 hr.2 (by omega)).mono ?_
  rintro e w2 ⟨rfl, T2, hk⟩
  have HK2 := Lib.hid (HK1.out.trans hk); clear hk
  have hl2 : lenS (bothW (bothW s (cons l)) (num4W r)) ≤ lenS s + 2 + 4 := lenS_le hl1 (num4S_len _)
  have hT2 : ¬ T2 P := HK2.out.not hPl hT
  have HB2 := Lib.hid (HTP HK2.out)
  go_wp2_with fail
  refine (wrm_number HK2.out.at' HB2.out HI4.out hT2 hn.1 hn.2 (by omega)).mono ?_
  rintro e w3 ⟨rfl, T3, hk⟩
  have HK3 := Lib.hid (HK2.out.trans hk); clear hk
  go_wp2_with fail
  refine bodyPost_end (results_none rfl _ _ _) rfl ?_
  exact ⟨rfl, T3, HK3.out⟩
end Go.Proofs.Sb
