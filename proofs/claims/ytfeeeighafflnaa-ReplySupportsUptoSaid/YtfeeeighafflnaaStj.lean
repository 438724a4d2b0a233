/- Walks over reply.stream's note, result, parts, reading. Conditions: lengths up to 2^47. -/
import Derived.Test.YtfeeeighafflnaaSti
set_option linter.unusedVariables false
set_option linter.unusedSimpArgs false
namespace Sb
theorem nte_s {k : B} (h : k = wSchema) : (fun b => if k = wSchema then bindR (chgR b) fun c b => .ok ((⟨k, [], Adr.none, c⟩ : Nte), b) else bindR (wordR (if k = wTopology then wdsN else wdsU) b) fun w b => bindR (getInet b) fun a b => .ok (⟨k, w, a, Chg.none⟩, b)) = fun b => bindR (chgR b) fun c b => .ok (⟨k, [], Adr.none, c⟩, b) := by
  funext b
  rw [if_pos h]
theorem nte_a {k : B} (h : ¬ k = wSchema) : (fun b => if k = wSchema then bindR (chgR b) fun c b => .ok ((⟨k, [], Adr.none, c⟩ : Nte), b) else bindR (wordR (if k = wTopology then wdsN else wdsU) b) fun w b => bindR (getInet b) fun a b => .ok (⟨k, w, a, Chg.none⟩, b)) = fun b => bindR (wordR (if k = wTopology then wdsN else wdsU) b) fun w b => bindR (getInet b) fun a b => .ok (⟨k, w, a, Chg.none⟩, b) := by
  funext b
  rw [if_neg h]
theorem nte_R1 {s s1 : Wr} {k : B} {c : Chg} (h1 : gR (wordR wdsE) s = s1) (hk : gV [] getText s = k) (h : k = wSchema) (hc : Tie chgR s1 c) : Tie nteR s ⟨k, [], Adr.none, c⟩ ∧ gR nteR s = gR chgR s1 := by
  have t1 : Tie (wordR wdsE) s k := hk ▸ tie_word wdsE s
  have e : nteR = fun b => bindR (wordR wdsE b) fun k b => (fun b => if k = wSchema then bindR (chgR b) fun c b => .ok ((⟨k, [], Adr.none, c⟩ : Nte), b) else bindR (wordR (if k = wTopology then wdsN else wdsU) b) fun w b => bindR (getInet b) fun a b => .ok (⟨k, w, a, Chg.none⟩, b)) b := rfl
  rw [e]
  refine ⟨tie_bindT t1 ?_, ?_⟩
  · rw [h1, nte_s h]
    exact tie_bindT hc (tie_pure _ _)
  · rw [gR_bindT t1, h1, nte_s h, gR_bindT hc]
    exact gR_pure _ _
theorem nte_R2 {s s1 s2 : Wr} {k w : B} {a : Adr} {ws : List B} (h1 : gR (wordR wdsE) s = s1) (hk : gV [] getText s = k) (h : ¬ k = wSchema) (hws : (if k = wTopology then wdsN else wdsU) = ws) (h2 : gR (wordR ws) s1 = s2) (hw : gV [] getText s1 = w) (ha : Tie getInet s2 a) : Tie nteR s ⟨k, w, a, Chg.none⟩ ∧ gR nteR s = gR getInet s2 := by
  have t1 : Tie (wordR wdsE) s k := hk ▸ tie_word wdsE s
  have t2 : Tie (wordR ws) s1 w := hw ▸ tie_word ws s1
  have e : nteR = fun b => bindR (wordR wdsE b) fun k b => (fun b => if k = wSchema then bindR (chgR b) fun c b => .ok ((⟨k, [], Adr.none, c⟩ : Nte), b) else bindR (wordR (if k = wTopology then wdsN else wdsU) b) fun w b => bindR (getInet b) fun a b => .ok (⟨k, w, a, Chg.none⟩, b)) b := rfl
  rw [e]
  refine ⟨tie_bindT t1 ?_, ?_⟩
  · rw [h1, nte_a h, hws]
    refine tie_bindT t2 ?_
    rw [h2]
    exact tie_bindT ha (tie_pure _ _)
  · rw [gR_bindT t1, h1, nte_a h, hws, gR_bindT t2, h2, gR_bindT ha]
    exact gR_pure _ _
end Sb
namespace Go.Proofs.Sb
open Go.RowKit _root_.Sb
set_option maxHeartbeats 16000000 in
set_option maxRecDepth 100000 in
theorem rdm_note {S : Nat → Prop} {w : World} {X P op : Nat} {s : Wr} (h : StR S w X s) (hB : Bx (fun b => b = P) w P (rpZ op)) (hSX : ∀ b, S b → b ≠ X) (hSP : ∀ b, S b → b ≠ P) (hPX : P ≠ X) :
    Calls Try.prog 28 #[.pointer (some ⟨X, 0, none⟩), .pointer (some ⟨P, 17, none⟩)] w fun e w' => e = .returned (.tuple #[]) ∧ StR S w' X (gR nteR s) ∧ Fr (fun b => b = X ∨ b = P) w w' ∧ ∃ n A1 n1 c1 A2 n2 c2, Bx (fun b => b = P) w' P (rpV { Rp.of op with note := n } zS zS zS zS (.slice A1 n1 c1) (.slice A2 n2 c2) zS zS zS) ∧ Sl (fun b => w.heap.size ≤ b) w' A1 n1 c1 n.addr.addr ∧ Arr 1 strP (fun b => w.heap.size ≤ b) w' A2 n2 c2 n.schema.args ∧ Tie nteR s n := by
  have hXl := h.lt
  have HA := Lib.hid h; clear h
  have hPl := hB.lt
  have HB := Lib.hid hB; clear hB
  have HSX := Lib.hid hSX; have HSP := Lib.hid hSP; clear hSX hSP
  go_enter Try.func28, Try.ntmps28
  go_wp2_with fail
  refine (rdm_word (i := 17) (ws := wdsE) (S2 := fun b => b = w.heap.size) (HA.out.after (by repeat (first | exact Below.refl _ _ | assumption | refine Below.drew ?_ | refine below_drewN ?_ _ | refine Below.alloc ?_ (by simp) _ | refine Below.setCell ?_ (by simp) _))) (HB.out.after (by repeat (first | exact Below.refl _ _ | assumption | refine Below.drew ?_ | refine below_drewN ?_ _ | refine Below.alloc ?_ (by simp) _ | refine Below.setCell ?_ (by simp) _))) rfl HSX.out HSP.out hPX (arr_strs (by rfl) (by decide) rfl (by decide)) (fun b hb => by omega)).mono ?_
  rintro e w1 ⟨rfl, hr, hf, hb⟩
  have HR1 := Lib.hid hr
  have HB1 := Lib.hid hb
  have HF1 : Hid (Fr (fun b => b = X ∨ b = P) w w1) := Lib.hid ((Fr.of_below (by repeat (first | exact Below.refl _ _ | assumption | refine Below.drew ?_ | refine below_drewN ?_ _ | refine Below.alloc ?_ (by simp) _ | refine Below.setCell ?_ (by simp) _))).trans hf)
  clear hr hf hb
  obtain ⟨s1, hs1⟩ : ∃ s1, gR (wordR wdsE) s = s1 := ⟨_, rfl⟩
  obtain ⟨k, hk⟩ : ∃ k, gV [] getText s = k := ⟨_, rfl⟩
  rw [hs1] at HR1
  rw [hk] at HB1
  have HS1 := Lib.hid hs1; have HVK := Lib.hid hk; clear hs1 hk
  have hx1 := HR1.out.lt
  have hp1 := HB1.out.lt
  have hz1 := HF1.out.size
  have c0 := HB1.out.c 17 _ rfl
  by_cases hsc : k = wSchema
  · have n1 : (k == [83, 67, 72, 69, 77, 65, 95, 67, 72, 65, 78, 71, 69]) = true := by rw [hsc]; decide
    have HSC := Lib.hid hsc; clear hsc
    go_wp2_with fail
    refine (rdm_change (i := 21) HR1.out HB1.out rfl rfl rfl rfl rfl HSX.out HSP.out hPX).mono ?_
    rintro e w2 ⟨rfl, hr, hf, c, A1, m1, d1, hb, harr, htie⟩
    have HR2 := Lib.hid hr
    have HB2 := Lib.hid hb
    have HARR := Lib.hid harr
    have HTIE := Lib.hid htie
    have HF2 := Lib.hid (HF1.out.trans hf)
    clear hr hf hb harr htie
    go_wp2_with fail
    first | refine bodyPost_ret (v := .tuple #[]) (results_none rfl _ _ _) rfl ?_ | refine bodyPost_end (results_none rfl _ _ _) rfl ?_
    have hc := nte_R1 HS1.out HVK.out HSC.out HTIE.out
    refine ⟨rfl, ?_, HF2.out, ⟨k, [], Adr.none, c⟩, none, 0, 0, A1, m1, d1, HB2.out, Sl.nil, HARR.out.mono fun b hb _ => by omega, hc.1⟩
    rw [hc.2]
    exact HR2.out
  · have n1 : (k == [83, 67, 72, 69, 77, 65, 95, 67, 72, 65, 78, 71, 69]) = false := beq_eq_false_iff_ne.2 hsc
    have HSC := Lib.hid hsc; clear hsc
    by_cases htp : k = wTopology
    · have hws : (if k = wTopology then wdsN else wdsU) = wdsN := if_pos htp
      have n2 : (k == [84, 79, 80, 79, 76, 79, 71, 89, 95, 67, 72, 65, 78, 71, 69]) = true := by rw [htp]; decide
      have HWS := Lib.hid hws; clear hws htp
      go_wp2_with fail
      refine (rdm_word (i := 18) (ws := wdsN) (S2 := fun b => b = w1.heap.size) (HR1.out.after (by repeat (first | exact Below.refl _ _ | assumption | refine Below.drew ?_ | refine below_drewN ?_ _ | refine Below.alloc ?_ (by simp) _ | refine Below.setCell ?_ (by simp) _))) (HB1.out.after (by repeat (first | exact Below.refl _ _ | assumption | refine Below.drew ?_ | refine below_drewN ?_ _ | refine Below.alloc ?_ (by simp) _ | refine Below.setCell ?_ (by simp) _))) rfl HSX.out HSP.out hPX (arr_strs (by rfl) (by decide) rfl (by decide)) (fun b hb => by omega)).mono ?_
      rintro e w2 ⟨rfl, hr, hf, hb⟩
      have HR2 := Lib.hid hr
      have HB2 := Lib.hid hb
      have HF2 : Hid (Fr (fun b => b = X ∨ b = P) w w2) := Lib.hid (HF1.out.trans ((Fr.of_below (by repeat (first | exact Below.refl _ _ | assumption | refine Below.drew ?_ | refine below_drewN ?_ _ | refine Below.alloc ?_ (by simp) _ | refine Below.setCell ?_ (by simp) _))).trans hf))
      have hz2 := HF2.out.size
      clear hr hf hb
      go_wp2_with fail
      refine (m_inet (spr_inet (i := 19) HR2.out HB2.out rfl rfl HSX.out HSP.out hPX)).mono ?_
      rintro e w3 ⟨rfl, hr, hf, A1, m1, d1, hb, hrow⟩
      have HR3 := Lib.hid hr
      have HB3 := Lib.hid hb
      have HROW := Lib.hid hrow
      have HF3 := Lib.hid (HF2.out.trans hf)
      clear hr hf hb hrow
      go_wp2_with fail
      first | refine bodyPost_end (results_none rfl _ _ _) rfl ?_ | refine bodyPost_ret (v := .tuple #[]) (results_none rfl _ _ _) rfl ?_
      have hc := nte_R2 HS1.out HVK.out HSC.out HWS.out rfl rfl (tie_gV Adr.none getInet _)
      refine ⟨rfl, ?_, HF3.out, ⟨k, gV [] getText s1, gV Adr.none getInet (gR (wordR wdsN) s1), Chg.none⟩, A1, m1, d1, none, 0, 0, HB3.out, HROW.out.mono fun b hb _ => by omega, Arr.nil, hc.1⟩
      rw [hc.2]
      exact HR3.out
    · have hws : (if k = wTopology then wdsN else wdsU) = wdsU := if_neg htp
      have n2 : (k == [84, 79, 80, 79, 76, 79, 71, 89, 95, 67, 72, 65, 78, 71, 69]) = false := beq_eq_false_iff_ne.2 htp
      have HWS := Lib.hid hws; clear hws htp
      go_wp2_with fail
      refine (rdm_word (i := 18) (ws := wdsU) (S2 := fun b => b = w1.heap.size) (HR1.out.after (by repeat (first | exact Below.refl _ _ | assumption | refine Below.drew ?_ | refine below_drewN ?_ _ | refine Below.alloc ?_ (by simp) _ | refine Below.setCell ?_ (by simp) _))) (HB1.out.after (by repeat (first | exact Below.refl _ _ | assumption | refine Below.drew ?_ | refine below_drewN ?_ _ | refine Below.alloc ?_ (by simp) _ | refine Below.setCell ?_ (by simp) _))) rfl HSX.out HSP.out hPX (arr_strs (by rfl) (by decide) rfl (by decide)) (fun b hb => by omega)).mono ?_
      rintro e w2 ⟨rfl, hr, hf, hb⟩
      have HR2 := Lib.hid hr
      have HB2 := Lib.hid hb
      have HF2 : Hid (Fr (fun b => b = X ∨ b = P) w w2) := Lib.hid (HF1.out.trans ((Fr.of_below (by repeat (first | exact Below.refl _ _ | assumption | refine Below.drew ?_ | refine below_drewN ?_ _ | refine Below.alloc ?_ (by simp) _ | refine Below.setCell ?_ (by simp) _))).trans hf))
      have hz2 := HF2.out.size
      clear hr hf hb
      go_wp2_with fail
      refine (m_inet (spr_inet (i := 19) HR2.out HB2.out rfl rfl HSX.out HSP.out hPX)).mono ?_
      rintro e w3 ⟨rfl, hr, hf, A1, m1, d1, hb, hrow⟩
      have HR3 := Lib.hid hr
      have HB3 := Lib.hid hb
      have HROW := Lib.hid hrow
      have HF3 := Lib.hid (HF2.out.trans hf)
      clear hr hf hb hrow
      go_wp2_with fail
      first | refine bodyPost_end (results_none rfl _ _ _) rfl ?_ | refine bodyPost_ret (v := .tuple #[]) (results_none rfl _ _ _) rfl ?_
      have hc := nte_R2 HS1.out HVK.out HSC.out HWS.out rfl rfl (tie_gV Adr.none getInet _)
      refine ⟨rfl, ?_, HF3.out, ⟨k, gV [] getText s1, gV Adr.none getInet (gR (wordR wdsU) s1), Chg.none⟩, A1, m1, d1, none, 0, 0, HB3.out, HROW.out.mono fun b hb _ => by omega, Arr.nil, hc.1⟩
      rw [hc.2]
      exact HR3.out
end Go.Proofs.Sb
