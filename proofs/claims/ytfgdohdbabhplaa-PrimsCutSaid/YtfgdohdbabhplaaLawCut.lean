/- The walk over signalboxlaw02.PrimsCut: true at every input, and nothing that was there has turned. Conditions: none. -/
import Derived.Test.YtfgdohdbabhplaaLawBack
import Derived.Test.YtfgdohdbabhplaaLawMCut
set_option linter.unusedVariables false
set_option linter.unusedSimpArgs false
namespace Go.Proofs.Sb
open Go.RowKit _root_.Sb

theorem cut_two (q : Nat) (h : q < 2) : getCons (([0, 1] : B).take q) = .error 10 := by
  unfold getCons
  rw [getN_cut (by rw [List.length_take]; simp; omega)]

set_option maxHeartbeats 8000000 in
set_option maxRecDepth 100000 in
theorem primsCut_small {S1 S2 : Nat → Prop} {A0 A1 : Option Addr} {m0 c0 n1 c1 : Nat} {s vb ad : B} {vk i : Int} {port : Nat} {w : World} (hv : Sl S1 w A0 m0 c0 vb) (ha : Sl S2 w A1 n1 c1 ad) (hp : port < 4294967296) (hl : s.length ≤ 1000) (hm0 : m0 ≤ 1000) :
    Calls Try.prog 15 #[.string (str s), .agg #[.int .i64 vk, .slice A0 m0 c0], .agg #[.slice A1 n1 c1, .int .u32 (port : Int)], .int .i64 i] w fun e w' => e = .returned (.bool true) ∧ Below w.heap.size w w' := by
  have hvl := Lib.hid hv.len
  have hvc := hv.cap
  have hvm := hv.capMax
  have hac := ha.cap
  have ham := ha.capMax
  have HV := Lib.hid hv; clear hv
  have HA := Lib.hid ha; clear ha
  obtain ⟨kk, hkk, hand⟩ := and_ex i
  have HAND := Lib.hid hand; clear hand
  obtain ⟨rt, hrt⟩ : ∃ r, text s = r := ⟨_, rfl⟩
  have HT := Lib.hid hrt; clear hrt
  obtain ⟨rv, hrv⟩ : ∃ r, value ⟨vk, vb⟩ = r := ⟨_, rfl⟩
  have HW := Lib.hid hrv; clear hrv
  obtain ⟨ri, hri⟩ : ∃ r, inet ⟨ad, port⟩ = r := ⟨_, rfl⟩
  have HI := Lib.hid hri; clear hri
  go_enter Try.func15, Try.ntmps15
  go_wp2_with fail
  refine (awake2 _).mono ?_
  rintro e w1 ⟨rfl, hb1⟩
  have p0 : w1.cell? ⟨w.heap.size, 0, none⟩ = some (.int .i64 vk) := keep_cell hb1 (by go_simp)
  have p1 : w1.cell? ⟨w.heap.size, 1, none⟩ = some (.slice A0 m0 c0) := keep_cell hb1 (by go_simp)
  have q0 : w1.cell? ⟨w.heap.size + 1, 0, none⟩ = some (.slice A1 n1 c1) := keep_cell hb1 (by go_simp)
  have q1 : w1.cell? ⟨w.heap.size + 1, 1, none⟩ = some (.int .u32 (port : Int)) := keep_cell hb1 (by go_simp)
  have hb1 : Below w.heap.size w w1 := Below.trans (by repeat (first | exact Below.refl _ _ | assumption | refine Below.drew ?_ | refine below_drewN ?_ _ | refine Below.alloc ?_ (by first | (simp; done) | omega | (simp; omega)) _ | refine Below.setCell ?_ (by first | (simp; done) | omega | (simp; omega)) _)) (hb1.mono (by simp; omega))
  have hz1 := hb1.size
  go_wp2_with fail
  refine (text_any s _ (by omega) rt HT.out).mono ?_
  rintro e w2 ⟨B2, n2, c2, rfl, ho2, hb2⟩
  replace p0 := keep_cell hb2 p0
  replace p1 := keep_cell hb2 p1
  replace q0 := keep_cell hb2 q0
  replace q1 := keep_cell hb2 q1
  have bel2 : Below w.heap.size w w2 := Below.trans hb1 (hb2.mono hz1)
  have hz2 := bel2.size
  go_wp2_with fail
  refine (value_any (v := ⟨vk, vb⟩) (HV.out.after bel2) (by omega) rv HW.out).mono ?_
  rintro e w3 ⟨B3, n3, c3, rfl, ho3, hb3⟩
  clear p0 p1
  replace q0 := keep_cell hb3 q0
  replace q1 := keep_cell hb3 q1
  have bel3 : Below w.heap.size w w3 := Below.trans bel2 (hb3.mono hz2)
  have hz3 := bel3.size
  go_wp2_with fail
  refine (inet_any (a := ⟨ad, port⟩) (HA.out.after bel3) hp ri HI.out).mono ?_
  rintro e w4 ⟨B4, n4, c4, rfl, ho4, hb4⟩
  clear q0 q1
  have bel4 : Below w.heap.size w w4 := Below.trans bel3 (hb4.mono hz3)
  have hz4 := bel4.size
  cases rt with
  | error et =>
    have hne : et ≠ 0 := text_ne HT.out
    have hne2 : (et != 0) = true := by simpa using hne
    go_wp2_with fail
    go_ret
    exact ⟨rfl, bel4⟩
  | ok tb =>
    cases rv with
    | error ev =>
      have hne : ev ≠ 0 := value_ne HW.out
      have hne2 : (ev != 0) = true := by simpa using hne
      go_wp2_with fail
      go_ret
      exact ⟨rfl, bel4⟩
    | ok xb =>
      cases ri with
      | error ei =>
        have hne : ei ≠ 0 := inet_ne HI.out
        have hne2 : (ei != 0) = true := by simpa using hne
        go_wp2_with fail
        go_ret
        exact ⟨rfl, bel4⟩
      | ok yb =>
        have ltb : tb.length ≤ 1002 ∧ 0 < tb.length := by obtain ⟨_, _, e⟩ := text_len HT.out; rw [e, List.length_append, enc_length]; omega
        have lxb : xb.length ≤ 1004 ∧ 0 < xb.length := by
          have h := value_le HW.out
          simp only at h
          refine ⟨by have := hvl.out; omega, ?_⟩
          rcases value_parts HW.out with ⟨_, e⟩ | ⟨_, e⟩ | ⟨_, e⟩
          · rw [e, enc_length]; omega
          · rw [e, enc_length]; omega
          · rw [e, List.length_append, enc_length]; omega
        have lyb : yb.length ≤ 21 ∧ 0 < yb.length := ⟨inet_le HI.out, by obtain ⟨h1, e⟩ := inet_parts HI.out; rw [e, List.length_append, enc_length]; omega⟩
        have llong : (long s).length ≤ 1004 ∧ 0 < (long s).length := by unfold long; rw [List.length_append, enc_length]; omega
        have hs2 := Lib.hid (ho2.after (seqB hb3 hb4)).sl
        have hs3 := Lib.hid (ho3.after hb4).sl
        have hs4 := Lib.hid ho4.sl
        simp only [werr_ok, wval_ok] at hs2 hs3 hs4 ⊢
        clear ho2 ho3 ho4
        go_wp2_with fail
        refine (long_any s _ (by omega)).mono ?_
        rintro e w5 ⟨B5, n5, c5, rfl, ho5, hb5⟩
        have bel5 : Below w.heap.size w w5 := Below.trans bel4 (hb5.mono hz4)
        have hz5 := bel5.size
        have hs5 := Lib.hid ho5.sl
        clear ho5
        have l2 : 0 < n2 ∧ n2 ≤ 140737488355328 := by have := hs2.out.len; omega
        have l3 : 0 < n3 ∧ n3 ≤ 140737488355328 := by have := hs3.out.len; omega
        have l4 : 0 < n4 ∧ n4 ≤ 140737488355328 := by have := hs4.out.len; omega
        have l5 : 0 < n5 ∧ n5 ≤ 140737488355328 := by have := hs5.out.len; omega
        have h2c := hs2.out.cap
        have h3c := hs3.out.cap
        have h4c := hs4.out.cap
        have h5c := hs5.out.cap
        have h2m := hs2.out.capMax
        have h3m := hs3.out.capMax
        have h4m := hs4.out.capMax
        have h5m := hs5.out.capMax
        have m2 := Nat.mod_lt kk l2.1
        have m3 := Nat.mod_lt kk l3.1
        have m4 := Nat.mod_lt kk l4.1
        have m5 := Nat.mod_lt kk l5.1
        have m6 := Nat.mod_lt kk (show 0 < 2 by omega)
        have C2 : Hid (getText (tb.take (kk % n2)) = .error 10) := text_cut (fun _ => True) s tb _ trivial HT.out (by have := hs2.out.len; omega)
        have C3 : Hid (getValue (xb.take (kk % n3)) = .error 10) := value_cut ⟨vk, vb⟩ xb _ (by unfold val31; simp only; have := hvl.out; omega) HW.out (by have := hs3.out.len; omega)
        have C4 : Hid (getInet (yb.take (kk % n4)) = .error 10) := inet_cut ⟨ad, port⟩ yb _ hp HI.out (by have := hs4.out.len; omega)
        have C5 : Hid (getLong ((long s).take (kk % n5)) = .error 10) := long_cut s (long s) _ (by unfold short31; omega) rfl (by have := hs5.out.len; omega)
        have C6 := Lib.hid (cut_two (kk % 2) m6)
        have hand := HAND.out
        have hcut2 := run_headm B2 n2 c2 kk l2.1 h2c
        have hcut3 := run_headm B3 n3 c3 kk l3.1 h3c
        have hcut4 := run_headm B4 n4 c4 kk l4.1 h4c
        have hcut5 := run_headm B5 n5 c5 kk l5.1 h5c
        have hcut6 : ∀ (A : Option Addr) (W : World), (Instr.slice 22 (.slice A 2 2) none (some (.int .i64 ((kk : Int) % 2))) none).run Try.prog W = .ok (.slice A (kk % 2) 2) W := fun A W => run_headm A 2 2 kk (by omega) (by omega) W
        go_wp2_with fail
        refine (getText_any ((hs2.out.after hb5).take (kk % n2) (by omega)) (by omega) _ C2.out).mono ?_
        rintro e w6 ⟨D1, d1, f1, rfl, _, hb6⟩
        have bel6 : Below w.heap.size w w6 := Below.trans bel5 (hb6.mono hz5)
        have hz6 := bel6.size
        go_wp2_with fail
        refine (getValue_any ((hs3.out.after (seqB hb5 hb6)).take (kk % n3) (by omega)) (by omega) _ C3.out).mono ?_
        rintro e w7 ⟨D2, d2, f2, D3, d3, f3, rfl, _, _, hb7⟩
        have bel7 : Below w.heap.size w w7 := Below.trans bel6 (hb7.mono hz6)
        have hz7 := bel7.size
        go_wp2_with fail
        refine (getInet_any (((hs4.out.after (seqB hb5 (seqB hb6 hb7))).after (by repeat (first | exact Below.refl _ _ | assumption | refine Below.drew ?_ | refine below_drewN ?_ _ | refine Below.alloc ?_ (by first | (simp; done) | omega | (simp; omega)) _ | refine Below.setCell ?_ (by first | (simp; done) | omega | (simp; omega)) _))).take (kk % n4) (by omega)) (by omega) _ C4.out).mono ?_
        rintro e w8 ⟨D4, d4, f4, D5, d5, f5, rfl, _, _, hb8⟩
        replace hb8 : Below w7.heap.size w7 w8 := Below.trans (by repeat (first | exact Below.refl _ _ | assumption | refine Below.drew ?_ | refine below_drewN ?_ _ | refine Below.alloc ?_ (by simp) _ | refine Below.setCell ?_ (by simp) _)) (hb8.mono (by simp))
        have bel8 : Below w.heap.size w w8 := Below.trans bel7 (hb8.mono hz7)
        have hz8 := bel8.size
        go_wp2_with fail
        refine (getLong_any (((hs5.out.after (seqB hb6 (seqB hb7 hb8))).after (by repeat (first | exact Below.refl _ _ | assumption | refine Below.drew ?_ | refine below_drewN ?_ _ | refine Below.alloc ?_ (by first | (simp; done) | omega | (simp; omega)) _ | refine Below.setCell ?_ (by first | (simp; done) | omega | (simp; omega)) _))).take (kk % n5) (by omega)) (by omega) _ C5.out).mono ?_
        rintro e w9 ⟨D6, d6, f6, rfl, _, hb9⟩
        replace hb9 : Below w8.heap.size w8 w9 := Below.trans (by repeat (first | exact Below.refl _ _ | assumption | refine Below.drew ?_ | refine below_drewN ?_ _ | refine Below.alloc ?_ (by simp) _ | refine Below.setCell ?_ (by simp) _)) (hb9.mono (by simp))
        have bel9 : Below w.heap.size w w9 := Below.trans bel8 (hb9.mono hz8)
        have hz9 := bel9.size
        go_wp2_with fail
        refine (getCons_any ((sl_lit _ _ 2 [0, 1] (by rfl) (by rfl) (by decide) (by simp)).take (kk % 2) (by omega)) _ C6.out).mono ?_
        rintro e w10 ⟨D7, d7, f7, rfl, _, hb10⟩
        simp only [rerr_error]
        go_wp2_with fail
        go_ret
        exact ⟨by simp, Below.trans (by repeat (first | exact Below.refl _ _ | assumption | refine Below.drew ?_ | refine below_drewN ?_ _ | refine Below.alloc ?_ (by first | (simp; done) | omega | (simp; omega)) _ | refine Below.setCell ?_ (by first | (simp; done) | omega | (simp; omega)) _)) (hb10.mono (by simp; omega))⟩

set_option maxHeartbeats 1000000 in
set_option maxRecDepth 100000 in
theorem primsCut_any {S1 S2 : Nat → Prop} {A0 A1 : Option Addr} {m0 c0 n1 c1 : Nat} {s vb ad : B} {vk i : Int} {port : Nat} {w : World} (hl : s.length ≤ 9223372036854775807) (hv : Sl S1 w A0 m0 c0 vb) (ha : Sl S2 w A1 n1 c1 ad) (hp : port < 4294967296) :
    Calls Try.prog 15 #[.string (str s), .agg #[.int .i64 vk, .slice A0 m0 c0], .agg #[.slice A1 n1 c1, .int .u32 (port : Int)], .int .i64 i] w fun e w' => e = .returned (.bool true) ∧ Below w.heap.size w w' := by
  by_cases h : s.length ≤ 1000 ∧ m0 ≤ 1000
  · exact primsCut_small hv ha hp h.1 h.2
  · clear ha
    have hmc0 := hv.cap
    have hcm0 := hv.capMax
    have hx : 1000 < s.length ∨ 1000 < m0 := by omega
    clear h hv
    by_cases h2 : 1000 < s.length
    · clear hx
      go_enter Try.func15, Try.ntmps15
      go_wp2_with fail
      refine (awake2 _).mono ?_
      rintro e w1 ⟨rfl, hb1⟩
      have p1 : w1.cell? ⟨w.heap.size, 1, none⟩ = some (.slice A0 m0 c0) := keep_cell hb1 (by go_simp)
      have hb1 : Below w.heap.size w w1 := Below.trans (by repeat (first | exact Below.refl _ _ | assumption | refine Below.drew ?_ | refine below_drewN ?_ _ | refine Below.alloc ?_ (by first | (simp; done) | omega | (simp; omega)) _ | refine Below.setCell ?_ (by first | (simp; done) | omega | (simp; omega)) _)) (hb1.mono (by simp; omega))
      go_wp2_with fail
      go_ret
      exact ⟨rfl, hb1⟩
    · have h3 : 1000 < m0 := by omega
      clear hx
      go_enter Try.func15, Try.ntmps15
      go_wp2_with fail
      refine (awake2 _).mono ?_
      rintro e w1 ⟨rfl, hb1⟩
      have p1 : w1.cell? ⟨w.heap.size, 1, none⟩ = some (.slice A0 m0 c0) := keep_cell hb1 (by go_simp)
      have hb1 : Below w.heap.size w w1 := Below.trans (by repeat (first | exact Below.refl _ _ | assumption | refine Below.drew ?_ | refine below_drewN ?_ _ | refine Below.alloc ?_ (by first | (simp; done) | omega | (simp; omega)) _ | refine Below.setCell ?_ (by first | (simp; done) | omega | (simp; omega)) _)) (hb1.mono (by simp; omega))
      go_wp2_with fail
      go_ret
      exact ⟨rfl, hb1⟩
end Go.Proofs.Sb
