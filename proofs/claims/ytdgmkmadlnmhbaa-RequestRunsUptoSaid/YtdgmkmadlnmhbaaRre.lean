/- Walk over signalboxref08.run. Conditions: sums of lengths up to 2^47. (written by gen_rqref2.py) -/
import Derived.Test.YtdgmkmadlnmhbaaRrb
import Derived.Test.YtdgmkmadlnmhbaaRefc
import Derived.Test.YtdgmkmadlnmhbaaAwake8
import Derived.Deep.CutBlock
set_option linter.unusedVariables false
set_option linter.unusedSimpArgs false
namespace Sb
theorem enc1 (f : Nat) : enc 1 f = [UInt8.ofNat f] := by
  simp [enc, encAt, List.range_succ]
theorem runOk_bad {bt : Bool} {p : Par} (h : ¬ (p.names.length = 0 ∨ p.names.length = p.values.length)) : runOk bt p = false := by
  unfold runOk
  have h1 : ((p.names.length == 0) || (p.names.length == p.values.length)) = false := by
    rw [Bool.or_eq_false_iff, beq_eq_false_iff_ne, beq_eq_false_iff_ne]
    omega
  rw [h1, Bool.false_and]
theorem runOk_good {bt : Bool} {p : Par} (h : p.names.length = 0 ∨ p.names.length = p.values.length) : runOk bt p = (!bt || noB (flP p)) := by
  unfold runOk
  have h1 : ((p.names.length == 0) || (p.names.length == p.values.length)) = true := by
    rw [Bool.or_eq_true, beq_iff_eq, beq_iff_eq]
    exact h
  rw [h1, Bool.true_and]
theorem low_flP (p : Par) : noB (flP p) = true ↔ (flP p % 16 = 0 ∧ flP p < 64) := by
  have h := fl7_low (decide (0 < p.values.length)) p.skip p.paged p.resumed p.serially p.timed (decide (0 < p.names.length))
  change (decide (0 < flP p % 16) || decide (64 ≤ flP p)) = !noB (flP p) at h
  cases hn : noB (flP p) with
  | true =>
    rw [hn, Bool.not_true, Bool.or_eq_false_iff, decide_eq_false_iff_not, decide_eq_false_iff_not] at h
    exact ⟨fun _ => by omega, fun _ => rfl⟩
  | false =>
    rw [hn, Bool.not_false, Bool.or_eq_true, decide_eq_true_eq, decide_eq_true_eq] at h
    exact ⟨fun e => (by cases e), fun e => by omega⟩
theorem optQ_t {b : Bool} {r : Wr} (h : b = true) : optQ b r = r := by subst h; rfl
theorem optQ_f {b : Bool} {r : Wr} (h : b = false) : optQ b r = .ok [] := by subst h; rfl
end Sb
namespace Go.Proofs.Sb
open Go.RowKit _root_.Sb
set_option maxHeartbeats 8000000 in
set_option maxRecDepth 100000 in
theorem rrun8_false {S : Nat → Prop} {w : World} {p : Par} {A1 : Option Addr} {n1 c1 : Nat} {A2 : Option Addr} {n2 c2 : Nat} (hp : RunR S w A1 n1 c1 A2 n2 c2 p.values p.names) (hn : ParN p) (hl : costR p ≤ 140737488100000) :
    Calls Try.prog 28 #[.agg (runV p A1 n1 c1 A2 n2 c2).toArray, .bool false] w fun e w' => ∃ A n c, e = .returned (.tuple #[.slice A n c, .int .i64 (werr (runQ false p))]) ∧ Own w.heap.size w' A n c (wval (runQ false p)) ∧ Below w.heap.size w w' := by
  have HN := Lib.hid hn; clear hn
  have hl1 := Lib.hid hp.values.len
  have hl2 := Lib.hid hp.names.len
  have hc1 := hp.values.cap
  have hm1 := hp.values.capMax
  have hc2 := hp.names.cap
  have hm2 := hp.names.capMax
  have HP := Lib.hid (goesRunR.mono (S' := fun b => b < w.heap.size) hp fun b _ h => h); clear hp
  have hR : runQ false p = bothW (cons p.cons) (bothW (mustQ (runOk false p)) (bothW (.ok (enc 1 (flP p))) (bothW (optQ (decide (0 < p.values.length)) (valsQ p.names p.values)) (bothW (optQ p.paged (.ok (enc 4 (p.page % 4294967296).toNat)))
    (bothW (optQ p.resumed (value p.state)) (bothW (optQ p.serially (cons p.serial)) (optQ p.timed (.ok (enc 8 (p.time % 18446744073709551616).toNat))))))))) := rfl
  have HR := Lib.hid hR; clear hR
  obtain ⟨f, hf⟩ : ∃ f, f = flP p := ⟨_, rfl⟩
  have hfn : f = fl7 (decide (0 < n1)) p.skip p.paged p.resumed p.serially p.timed (decide (0 < n2)) := by rw [hf, hl1.out, hl2.out]; rfl
  have hflt : f < 128 := by rw [hf]; exact fl7_lt _ _ _ _ _ _ _
  have HF := Lib.hid hf; clear hf
  have HFN := Lib.hid hfn; clear hfn
  have HL := Lib.hid (show 2 * costE (elsQ p.names p.values) + p.state.bytes.length ≤ 140737488100000 from hl); clear hl
  obtain ⟨cs, values, names, sk, pd, pg, rs, sv, sl, sr, td, tm⟩ := p
  have hN1 := HN.out.cons
  have hN2 := HN.out.serial
  have hN3 := HN.out.page
  have hN4 := HN.out.time
  dsimp only at hN1 hN2 hN3 hN4
  obtain ⟨rq, hrq⟩ : ∃ rq, rq = runQ false ⟨cs, values, names, sk, pd, pg, rs, sv, sl, sr, td, tm⟩ := ⟨_, rfl⟩
  rw [← hrq] at HR ⊢
  clear hrq
  simp only [runV]
  go_enter Try.func28, Try.ntmps28
  go_upto_region 1 with fail
  obtain ⟨w1, hw1⟩ : ∃ w1, w1 = w.alloc (.cells [.int .u16 (cs : Int), .slice A1 n1 c1, .slice A2 n2 c2, .bool sk, .bool pd, .int .i32 pg, .bool rs, .int .i64 sv.kind, .string (str sv.bytes), .bool sl, .int .u16 (sr : Int), .bool td, .int .i64 tm].toArray 45) := ⟨_, rfl⟩
  rw [← hw1]
  have hB1 : Below w.heap.size w w1 := by rw [hw1]; exact (Below.refl _ _).alloc (Nat.le_refl _) _
  have hbx : Bx (fun b => b = w.heap.size) w1 w.heap.size [.int .u16 (cs : Int), .slice A1 n1 c1, .slice A2 n2 c2, .bool sk, .bool pd, .int .i32 pg, .bool rs, .int .i64 sv.kind, .string (str sv.bytes), .bool sl, .int .u16 (sr : Int), .bool td, .int .i64 tm] := by
    rw [hw1]; exact Bx.alloc w _ 45 (S := fun b => b = w.heap.size) rfl rfl
  have HBX := Lib.hid hbx; clear hbx hw1
  have HB1 := Lib.hid hB1; clear hB1
  have HP1 := Lib.hid (goesRunR.after HP.out HB1.out)
  have k0 := HBX.out.c 0 _ rfl
  obtain ⟨cr, hcr⟩ : ∃ cr, cr = cons cs := ⟨_, rfl⟩
  have HCR := Lib.hid hcr; clear hcr
  go_upto_if 22 with (first | (go_at_call 66; refine (rcons_any (cs : Int) _ (by omega) (by omega) cr (by rw [Int.toNat_natCast]; exact HCR.out.symm)).mono ?_; rintro e w2 ⟨A2', m2, d2, rfl, ho2, hb2⟩; have HO2 := Lib.hid ho2; have HB2 := Lib.hid hb2; clear ho2 hb2))
  cases cr with
  | error e =>
    have hne : (e != 0) = true := by simpa using cons_ne8 HCR.out.symm
    rw [werr_er]
    have HE : Hid (rq = .error e) := Lib.hid (by rw [HR.out, ← HCR.out]; rfl)
    go_wp2_with fail
    go_ret2
    rw [HE.out]
    exact ⟨none, 0, 0, rfl, Own.nil, HB1.out.trans (HB2.out.mono HB1.out.size)⟩
  | ok cb =>
    rw [werr_ok, wval_ok] at *
    have HBX2 := Lib.hid (goesBx.after HBX.out HB2.out)
    clear k0
    have k1 := HBX2.out.c 1 _ rfl
    have k2 := HBX2.out.c 2 _ rfl
    go_upto_region 5 with (first | (refine wpList_loadB HBX2.out (by rfl) 45 _ (by rfl) (by rfl) _ Try.underlying45 rfl (by kernel_rfl) ?_) | (go_at_call 67; refine (rflags8_any (p := ⟨cs, values, names, sk, pd, pg, rs, sv, sl, sr, td, tm⟩)).mono ?_; rintro e w3 ⟨rfl, hb3⟩; have HB3 := Lib.hid (HB2.out.trans (hb3.mono HB2.out.size)); have HO3 := Lib.hid (HO2.out.after hb3); have HBX3 := Lib.hid (goesBx.after HBX2.out hb3); replace k1 := kcell hb3 k1; replace k2 := kcell hb3 k2; clear hb3))
    rw [show fl7 (decide (0 < n1)) (Par.mk cs values names sk pd pg rs sv sl sr td tm).skip (Par.mk cs values names sk pd pg rs sv sl sr td tm).paged (Par.mk cs values names sk pd pg rs sv sl sr td tm).resumed (Par.mk cs values names sk pd pg rs sv sl sr td tm).serially (Par.mk cs values names sk pd pg rs sv sl sr td tm).timed (decide (0 < n2)) = f from HFN.out.symm]
    obtain ⟨β, hβ⟩ : ∃ β, β = runOk false ⟨cs, values, names, sk, pd, pg, rs, sv, sl, sr, td, tm⟩ := ⟨_, rfl⟩
    have HBE := Lib.hid hβ; clear hβ
    go_cut [50] (fun v wx => v = .bool (!β) ∧ w3 = wx)
    case first =>
      by_cases hbad : 0 < n2 ∧ n2 ≠ n1
      · obtain ⟨hb1, hb2⟩ := hbad
        have HB0 : Hid (β = false) := Lib.hid (by rw [HBE.out]; exact runOk_bad (by dsimp only; have := hl1.out; have := hl2.out; omega))
        have hb3 : (n2 : Int) ≠ (n1 : Int) := by omega
        go_wp2_with fail
        all_goals (go_meet; exact ⟨by rw [HB0.out]; rfl, rfl⟩)
      · have HB0 : Hid (β = (!false || noB f)) := Lib.hid (by rw [HBE.out, HF.out]; exact runOk_good (by dsimp only; have := hl1.out; have := hl2.out; omega))
        have hlow := low_flP ⟨cs, values, names, sk, pd, pg, rs, sv, sl, sr, td, tm⟩
        rw [← HF.out] at hlow
        have HLO := Lib.hid hlow; clear hlow
        have hg : ¬ (0 < n2) ∨ n2 = n1 := by omega
        have hg2 : n2 = 0 ∨ n2 = n1 := by omega
        clear hbad hg
        rcases hg2 with h | h
        · subst h
          go_wp2_with fail
          all_goals (go_meet; exact ⟨by rw [HB0.out]; rfl, rfl⟩)
        · have hb3 : ((n2 : Int) != (n1 : Int)) = false := by simp [h]
          clear h
          go_wp2_with fail
          all_goals (go_meet; exact ⟨by rw [HB0.out]; rfl, rfl⟩)
    obtain ⟨rfl, rfl⟩ := hcut
    cases β with
    | false =>
      have HE : Hid (rq = .error 1) := Lib.hid (by rw [HR.out, ← HCR.out, ← HBE.out]; rfl)
      go_wp2_with fail
      go_ret2
      rw [HE.out]
      exact ⟨none, 0, 0, rfl, Own.nil, HB1.out.trans (HB3.out.mono HB1.out.size)⟩
    | true =>
      obtain ⟨fb, hfb⟩ : ∃ x : UInt8, x.toNat = f := ⟨UInt8.ofNat f, by simp; omega⟩
      have HFE : Hid (enc 1 f = [fb]) := Lib.hid (by rw [enc1, ← hfb]; simp)
      have hbv : (#[Value.int .u8 (f : Int)] : Array Value).toList = bv [fb] := by rw [← hfb]; rfl
      have HBV := Lib.hid hbv; clear hbv hfb
      have hlcb : cb.length ≤ 2 := by have := cons_w cs; rw [← HCR.out] at this; exact this
      have HLCB := Lib.hid hlcb; clear hlcb
      have hz3 := HB3.out.size
      go_upto_region 8 with (first | (at_builtin; refine wpList_appw rfl _ _ rfl w1.heap.size _ _ _ cb rfl (HO3.out.after ((Below.refl _ _).alloc (Nat.le_refl _) _)) _ _ _ _ [fb] rfl (sl_lit _ _ 1 [fb] HBV.out rfl (by decide) (by first | rfl | simp)) (by have := HLCB.out; simp only [List.length_cons, List.length_nil]; omega) (by simp; omega) ?_; intro A4 m4 d4 w4 hown4 hg4 hw4; (have HO4 := Lib.hid hown4; have HB4 := Lib.hid (HB3.out.trans (below_grow (((Below.refl w3.heap.size w3).mono hz3).alloc hz3 _) hg4 (by simp; omega) fun b e => (HO3.out.block b e).1)); clear hown4 hg4 hw4)))
      have HO4' : Hid (Own w1.heap.size w4 A4 m4 d4 (cb ++ [fb])) := HO4
      have HN1 : Hid (Nw (.ok (cb ++ [fb]) : Wr)) := Nw.ok _
      have hL1 : lenW (.ok (cb ++ [fb]) : Wr) ≤ 3 := by show (cb ++ [fb]).length ≤ 3; have := HLCB.out; rw [List.length_append]; simp only [List.length_cons, List.length_nil]; omega
      have HRS : Hid (rq = bothW (.ok (cb ++ [fb]) : Wr) (bothW (optQ (decide (0 < values.length)) (valsQ names values)) (bothW (optQ pd (.ok (enc 4 (pg % 4294967296).toNat))) (bothW (optQ rs (value sv)) (bothW (optQ sl (cons sr)) (optQ td (.ok (enc 8 (tm % 18446744073709551616).toNat)))))))) := Lib.hid (by
        rw [HR.out, ← HCR.out, ← HBE.out, show mustQ true = .ok [] from rfl, bothW_left, ← bothW_assoc, ← HF.out, HFE.out]; rfl)
      clear HO4 k1 k2
      obtain ⟨cE, hcE⟩ : ∃ cE, cE = costE (elsQ names values) := ⟨_, rfl⟩
      have hLE : 2 * cE + sv.bytes.length ≤ 140737488100000 := by rw [hcE]; exact HL.out
      have HCE := Lib.hid hcE; clear hcE
      have HBXi := Lib.hid (goesBx.after HBX.out HB4.out)
      have HPi := Lib.hid (goesRunR.after HP1.out HB4.out)
      have k1 := HBXi.out.c 1 _ rfl
      have k2 := HBXi.out.c 2 _ rfl
      obtain ⟨s2, hs2⟩ : ∃ s, s = bothW (.ok (cb ++ [fb]) : Wr) (optQ (decide (0 < values.length)) (valsQ names values)) := ⟨_, rfl⟩
      have HS := Lib.hid hs2; clear hs2
      have HNI := HN1
      have hLn : lenW s2 ≤ 3 + (2 + cE) := by rw [HS.out]; have h1 := lenW_both (.ok (cb ++ [fb]) : Wr) (optQ (decide (0 < values.length)) (valsQ names values)); have h2 := opt_le (b := (decide (0 < values.length))) (vals_le names values); have := HCE.out; omega
      have hLr := opt_le (b := (decide (0 < values.length))) (vals_le names values)
      have HNn : Hid (Nw s2) := Lib.hid (by rw [HS.out]; exact HNI.out.both (nwOpt (nwVals _ _)))
      have hzi := HB4.out.size
      go_upto_if 58 with fail
      go_cut [6, 7] (fun b e wx => ∃ A m c, b = .slice A m c ∧ e = .int .i64 (werr s2) ∧ Hid (Own w1.heap.size wx A m c (wval s2)) ∧ Hid (Below w1.heap.size w1 wx))
      case first =>
        by_cases h : 0 < n1
        · have hv : decide (0 < values.length) = true := decide_eq_true (by have := hl1.out; omega)
          have HVT := Lib.hid hv; clear hv
          have HNM : Hid (names = [] ∨ names.length = values.length) := Lib.hid (by
            have := HBE.out.symm
            by_cases hh : names.length = 0 ∨ names.length = values.length
            · rcases hh with hh | hh
              · exact .inl (List.length_eq_zero_iff.1 hh)
              · exact .inr hh
            · rw [runOk_bad hh] at this; cases this)
          rw [HVT.out] at hLr
          replace hLr : lenW (valsQ names values) ≤ 2 + cE := by rw [HCE.out]; exact hLr
          have hd : decide ((0 : Int) < (n1 : Int)) = true := decide_eq_true (by omega)
          go_wp2_with (first | (go_at_call 32; (refine (rvals8_any HPi.out.values HPi.out.names HNM.out (by have := HCE.out; omega)).mono ?_); rintro e w5 ⟨A5, m5, d5, rfl, ho5, hb5⟩; have HO5 := Lib.hid ho5; have HB5 := Lib.hid (HB4.out.trans (hb5.mono HB4.out.size)); have HOk := Lib.hid (HO4'.out.after hb5); clear ho5 hb5) | (go_at_call 29; (refine (rjoin8_any (s := (.ok (cb ++ [fb]) : Wr)) (r := (valsQ names values)) HOk.out.sl HO5.out.sl HNI.out (nwVals _ _) (by omega)).mono ?_); rintro e w6 ⟨A6, m6, d6, rfl, ho6, hb6⟩; have HO6 := Lib.hid (ho6.mono (by have := HB5.out.size; omega)); have HB6 := Lib.hid (HB5.out.trans (hb6.mono HB5.out.size)); clear ho6 hb6))
          go_meet
          exact ⟨A6, m6, d6, rfl, by rw [HS.out, optQ_t HVT.out], by rw [HS.out, optQ_t HVT.out]; exact HO6, HB6⟩
        · have hv : decide (0 < values.length) = false := decide_eq_false (by have := hl1.out; omega)
          have HVT := Lib.hid hv; clear hv
          have hd : decide ((0 : Int) < (n1 : Int)) = false := decide_eq_false (by omega)
          go_wp2_with fail
          go_meet
          exact ⟨_, _, _, rfl, by (rw [HS.out, optQ_f HVT.out, bothQ_nil]) <;> rfl, by rw [HS.out, optQ_f HVT.out, bothQ_nil]; exact HO4', HB4⟩
      obtain ⟨AX0, mX0, dX0, rfl, rfl, HOX0, HBY0⟩ := hcut
      obtain ⟨wx2, hwo⟩ : ∃ wo, wo = wc := ⟨_, rfl⟩
      subst hwo
      have HRS2 : Hid (rq = bothW s2 (bothW (optQ pd (.ok (enc 4 (pg % 4294967296).toNat))) (bothW (optQ rs (value sv)) (bothW (optQ sl (cons sr)) (optQ td (.ok (enc 8 (tm % 18446744073709551616).toNat))))))) := Lib.hid (by rw [HRS.out]; rw [← bothW_assoc, ← HS.out])
      clear HRS
      have HRS := HRS2
      have HNn1 := HNn
      have hLL1 := hLn
      clear HRS2 HNn hLn hLr HBXi HPi HNI HS hzi k1 k2
      have HBXi := Lib.hid (goesBx.after HBX.out HBY0.out)
      have HPi := Lib.hid (goesRunR.after HP1.out HBY0.out)
      have k4 := HBXi.out.c 4 _ rfl
      have k5 := HBXi.out.c 5 _ rfl
      obtain ⟨bq, hbq⟩ : ∃ x, x = pd := ⟨_, rfl⟩
      rw [← hbq] at k4
      have HBQ := Lib.hid hbq; clear hbq
      obtain ⟨s3, hs2⟩ : ∃ s, s = bothW s2 (optQ pd (.ok (enc 4 (pg % 4294967296).toNat))) := ⟨_, rfl⟩
      have HS := Lib.hid hs2; clear hs2
      have HNI := HNn1
      have hLn : lenW s3 ≤ 9 + cE := by rw [HS.out]; have h1 := lenW_both s2 (optQ pd (.ok (enc 4 (pg % 4294967296).toNat))); have h2 := opt_le (b := pd) (r := .ok (enc 4 (pg % 4294967296).toNat)) (n := 4) (by show (enc 4 _).length ≤ 4; rw [enc_length]; exact Nat.le_refl _); have := HCE.out; omega
      have hLr := opt_le (b := pd) (r := .ok (enc 4 (pg % 4294967296).toNat)) (n := 4) (by show (enc 4 _).length ≤ 4; rw [enc_length]; exact Nat.le_refl _)
      have HNn : Hid (Nw s3) := Lib.hid (by rw [HS.out]; exact HNI.out.both (nwOpt (Nw.ok _)))
      have hzi := HBY0.out.size
      go_upto_if 76 with fail
      go_cut [6, 7] (fun b e wx => ∃ A m c, b = .slice A m c ∧ e = .int .i64 (werr s3) ∧ Hid (Own w1.heap.size wx A m c (wval s3)) ∧ Hid (Below w1.heap.size w1 wx))
      case first =>
        have hLq : lenW ((.ok (enc 4 (pg % 4294967296).toNat)) : Wr) ≤ 4 := (by show (enc 4 _).length ≤ 4; rw [enc_length]; exact Nat.le_refl _)
        go_wp2_with (first | (go_at_call 64; (refine (rput_any (pg % 4294967296) 4 _ (by omega) (by omega) (by omega) (by omega)).mono ?_); rintro e w5 ⟨A5, m5, d5, rfl, ho5, hb5⟩; have HO5 := Lib.hid ho5; have HB5 := Lib.hid (HBY0.out.trans (hb5.mono HBY0.out.size)); have HOk := Lib.hid (HOX0.out.after hb5); clear ho5 hb5) | (go_at_call 29; (refine (rjoin8_any (s := s2) (r := (.ok (enc 4 (pg % 4294967296).toNat))) HOk.out.sl HO5.out.sl HNI.out (Nw.ok _) (by omega)).mono ?_); rintro e w6 ⟨A6, m6, d6, rfl, ho6, hb6⟩; have HO6 := Lib.hid (ho6.mono (by have := HB5.out.size; omega)); have HB6 := Lib.hid (HB5.out.trans (hb6.mono HB5.out.size)); clear ho6 hb6))
        · go_meet
          exact ⟨A6, m6, d6, rfl, by rw [HS.out, optQ_t (by first | exact HBQ.out.symm.trans (by assumption) | exact HBQ.out.symm)], by rw [HS.out, optQ_t (by first | exact HBQ.out.symm.trans (by assumption) | exact HBQ.out.symm)]; exact HO6, HB6⟩
        · go_meet
          exact ⟨_, _, _, rfl, by (rw [HS.out, optQ_f (by first | exact HBQ.out.symm.trans (by assumption) | exact HBQ.out.symm), bothQ_nil]) <;> rfl, by rw [HS.out, optQ_f (by first | exact HBQ.out.symm.trans (by assumption) | exact HBQ.out.symm), bothQ_nil]; exact HOX0, HBY0⟩
      obtain ⟨AX1, mX1, dX1, rfl, rfl, HOX1, HBY1⟩ := hcut
      obtain ⟨wx3, hwo⟩ : ∃ wo, wo = wc := ⟨_, rfl⟩
      subst hwo
      have HRS2 : Hid (rq = bothW s3 (bothW (optQ rs (value sv)) (bothW (optQ sl (cons sr)) (optQ td (.ok (enc 8 (tm % 18446744073709551616).toNat)))))) := Lib.hid (by rw [HRS.out]; rw [← bothW_assoc, ← HS.out])
      clear HRS
      have HRS := HRS2
      have HNn2 := HNn
      have hLL2 := hLn
      clear HRS2 HNn hLn hLr HBXi HPi HNI HS hzi k4 k5 HBQ
      have HBXi := Lib.hid (goesBx.after HBX.out HBY1.out)
      have HPi := Lib.hid (goesRunR.after HP1.out HBY1.out)
      have k6 := HBXi.out.c 6 _ rfl
      have k7 := HBXi.out.c 7 _ rfl
      have k8 := HBXi.out.c 8 _ rfl
      obtain ⟨bq, hbq⟩ : ∃ x, x = rs := ⟨_, rfl⟩
      rw [← hbq] at k6
      have HBQ := Lib.hid hbq; clear hbq
      obtain ⟨s4, hs2⟩ : ∃ s, s = bothW s3 (optQ rs (value sv)) := ⟨_, rfl⟩
      have HS := Lib.hid hs2; clear hs2
      have HNI := HNn2
      have hLn : lenW s4 ≤ 13 + cE + sv.bytes.length := by rw [HS.out]; have h1 := lenW_both s3 (optQ rs (value sv)); have h2 := opt_le (b := rs) (value_le sv); have := HCE.out; omega
      have hLr := opt_le (b := rs) (value_le sv)
      have HNn : Hid (Nw s4) := Lib.hid (by rw [HS.out]; exact HNI.out.both (nwOpt (nwValue _)))
      have hzi := HBY1.out.size
      go_upto_if 89 with fail
      go_cut [6, 7] (fun b e wx => ∃ A m c, b = .slice A m c ∧ e = .int .i64 (werr s4) ∧ Hid (Own w1.heap.size wx A m c (wval s4)) ∧ Hid (Below w1.heap.size w1 wx))
      case first =>
        have hLq : lenW ((value sv) : Wr) ≤ 4 + sv.bytes.length := value_le sv
        go_wp2_with (first | (go_at_call 27; (refine (rvalue_any sv _ (by omega) (value sv) rfl).mono ?_); rintro e w5 ⟨A5, m5, d5, rfl, ho5, hb5⟩; have HO5 := Lib.hid ho5; have HB5 := Lib.hid (HBY1.out.trans (hb5.mono HBY1.out.size)); have HOk := Lib.hid (HOX1.out.after hb5); clear ho5 hb5) | (go_at_call 29; (refine (rjoin8_any (s := s3) (r := (value sv)) HOk.out.sl HO5.out.sl HNI.out (nwValue _) (by omega)).mono ?_); rintro e w6 ⟨A6, m6, d6, rfl, ho6, hb6⟩; have HO6 := Lib.hid (ho6.mono (by have := HB5.out.size; omega)); have HB6 := Lib.hid (HB5.out.trans (hb6.mono HB5.out.size)); clear ho6 hb6))
        · go_meet
          exact ⟨A6, m6, d6, rfl, by rw [HS.out, optQ_t (by first | exact HBQ.out.symm.trans (by assumption) | exact HBQ.out.symm)], by rw [HS.out, optQ_t (by first | exact HBQ.out.symm.trans (by assumption) | exact HBQ.out.symm)]; exact HO6, HB6⟩
        · go_meet
          exact ⟨_, _, _, rfl, by (rw [HS.out, optQ_f (by first | exact HBQ.out.symm.trans (by assumption) | exact HBQ.out.symm), bothQ_nil]) <;> rfl, by rw [HS.out, optQ_f (by first | exact HBQ.out.symm.trans (by assumption) | exact HBQ.out.symm), bothQ_nil]; exact HOX1, HBY1⟩
      obtain ⟨AX2, mX2, dX2, rfl, rfl, HOX2, HBY2⟩ := hcut
      obtain ⟨wx4, hwo⟩ : ∃ wo, wo = wc := ⟨_, rfl⟩
      subst hwo
      have HRS2 : Hid (rq = bothW s4 (bothW (optQ sl (cons sr)) (optQ td (.ok (enc 8 (tm % 18446744073709551616).toNat))))) := Lib.hid (by rw [HRS.out]; rw [← bothW_assoc, ← HS.out])
      clear HRS
      have HRS := HRS2
      have HNn3 := HNn
      have hLL3 := hLn
      clear HRS2 HNn hLn hLr HBXi HPi HNI HS hzi k6 k7 k8 HBQ
      have HBXi := Lib.hid (goesBx.after HBX.out HBY2.out)
      have HPi := Lib.hid (goesRunR.after HP1.out HBY2.out)
      have k9 := HBXi.out.c 9 _ rfl
      have k10 := HBXi.out.c 10 _ rfl
      obtain ⟨bq, hbq⟩ : ∃ x, x = sl := ⟨_, rfl⟩
      rw [← hbq] at k9
      have HBQ := Lib.hid hbq; clear hbq
      obtain ⟨s5, hs2⟩ : ∃ s, s = bothW s4 (optQ sl (cons sr)) := ⟨_, rfl⟩
      have HS := Lib.hid hs2; clear hs2
      have HNI := HNn3
      have hLn : lenW s5 ≤ 15 + cE + sv.bytes.length := by rw [HS.out]; have h1 := lenW_both s4 (optQ sl (cons sr)); have h2 := opt_le (b := sl) (cons_w sr); have := HCE.out; omega
      have hLr := opt_le (b := sl) (cons_w sr)
      have HNn : Hid (Nw s5) := Lib.hid (by rw [HS.out]; exact HNI.out.both (nwOpt (nwCons _)))
      have hzi := HBY2.out.size
      go_upto_if 105 with fail
      go_cut [6, 7] (fun b e wx => ∃ A m c, b = .slice A m c ∧ e = .int .i64 (werr s5) ∧ Hid (Own w1.heap.size wx A m c (wval s5)) ∧ Hid (Below w1.heap.size w1 wx))
      case first =>
        have hLq : lenW ((cons sr) : Wr) ≤ 2 := cons_w sr
        go_wp2_with (first | (go_at_call 66; (refine (rcons_any (sr : Int) _ (by omega) (by omega) (cons sr) (by rw [Int.toNat_natCast])).mono ?_); rintro e w5 ⟨A5, m5, d5, rfl, ho5, hb5⟩; have HO5 := Lib.hid ho5; have HB5 := Lib.hid (HBY2.out.trans (hb5.mono HBY2.out.size)); have HOk := Lib.hid (HOX2.out.after hb5); clear ho5 hb5) | (go_at_call 29; (refine (rjoin8_any (s := s4) (r := (cons sr)) HOk.out.sl HO5.out.sl HNI.out (nwCons _) (by omega)).mono ?_); rintro e w6 ⟨A6, m6, d6, rfl, ho6, hb6⟩; have HO6 := Lib.hid (ho6.mono (by have := HB5.out.size; omega)); have HB6 := Lib.hid (HB5.out.trans (hb6.mono HB5.out.size)); clear ho6 hb6))
        · go_meet
          exact ⟨A6, m6, d6, rfl, by rw [HS.out, optQ_t (by first | exact HBQ.out.symm.trans (by assumption) | exact HBQ.out.symm)], by rw [HS.out, optQ_t (by first | exact HBQ.out.symm.trans (by assumption) | exact HBQ.out.symm)]; exact HO6, HB6⟩
        · go_meet
          exact ⟨_, _, _, rfl, by (rw [HS.out, optQ_f (by first | exact HBQ.out.symm.trans (by assumption) | exact HBQ.out.symm), bothQ_nil]) <;> rfl, by rw [HS.out, optQ_f (by first | exact HBQ.out.symm.trans (by assumption) | exact HBQ.out.symm), bothQ_nil]; exact HOX2, HBY2⟩
      obtain ⟨AX3, mX3, dX3, rfl, rfl, HOX3, HBY3⟩ := hcut
      obtain ⟨wx5, hwo⟩ : ∃ wo, wo = wc := ⟨_, rfl⟩
      subst hwo
      have HRS2 : Hid (rq = bothW s5 (optQ td (.ok (enc 8 (tm % 18446744073709551616).toNat)))) := Lib.hid (by rw [HRS.out]; rw [← bothW_assoc, ← HS.out])
      clear HRS
      have HRS := HRS2
      have HNn4 := HNn
      have hLL4 := hLn
      clear HRS2 HNn hLn hLr HBXi HPi HNI HS hzi k9 k10 HBQ
      have HBXi := Lib.hid (goesBx.after HBX.out HBY3.out)
      have HPi := Lib.hid (goesRunR.after HP1.out HBY3.out)
      have k11 := HBXi.out.c 11 _ rfl
      have k12 := HBXi.out.c 12 _ rfl
      obtain ⟨bq, hbq⟩ : ∃ x, x = td := ⟨_, rfl⟩
      rw [← hbq] at k11
      have HBQ := Lib.hid hbq; clear hbq
      obtain ⟨s6, hs2⟩ : ∃ s, s = bothW s5 (optQ td (.ok (enc 8 (tm % 18446744073709551616).toNat))) := ⟨_, rfl⟩
      have HS := Lib.hid hs2; clear hs2
      have HNI := HNn4
      have hLn : lenW s6 ≤ 23 + cE + sv.bytes.length := by rw [HS.out]; have h1 := lenW_both s5 (optQ td (.ok (enc 8 (tm % 18446744073709551616).toNat))); have h2 := opt_le (b := td) (r := .ok (enc 8 (tm % 18446744073709551616).toNat)) (n := 8) (by show (enc 8 _).length ≤ 8; rw [enc_length]; exact Nat.le_refl _); have := HCE.out; omega
      have hLr := opt_le (b := td) (r := .ok (enc 8 (tm % 18446744073709551616).toNat)) (n := 8) (by show (enc 8 _).length ≤ 8; rw [enc_length]; exact Nat.le_refl _)
      have HNn : Hid (Nw s6) := Lib.hid (by rw [HS.out]; exact HNI.out.both (nwOpt (Nw.ok _)))
      have hzi := HBY3.out.size
      go_upto_if 121 with fail
      go_cut [6, 7] (fun b e wx => ∃ A m c, b = .slice A m c ∧ e = .int .i64 (werr s6) ∧ Hid (Own w1.heap.size wx A m c (wval s6)) ∧ Hid (Below w1.heap.size w1 wx))
      case first =>
        have hLq : lenW ((.ok (enc 8 (tm % 18446744073709551616).toNat)) : Wr) ≤ 8 := (by show (enc 8 _).length ≤ 8; rw [enc_length]; exact Nat.le_refl _)
        go_wp2_with (first | (go_at_call 64; (refine (rput_any (tm % 18446744073709551616) 8 _ (by omega) (by omega) (by omega) (by omega)).mono ?_); rintro e w5 ⟨A5, m5, d5, rfl, ho5, hb5⟩; have HO5 := Lib.hid ho5; have HB5 := Lib.hid (HBY3.out.trans (hb5.mono HBY3.out.size)); have HOk := Lib.hid (HOX3.out.after hb5); clear ho5 hb5) | (go_at_call 29; (refine (rjoin8_any (s := s5) (r := (.ok (enc 8 (tm % 18446744073709551616).toNat))) HOk.out.sl HO5.out.sl HNI.out (Nw.ok _) (by omega)).mono ?_); rintro e w6 ⟨A6, m6, d6, rfl, ho6, hb6⟩; have HO6 := Lib.hid (ho6.mono (by have := HB5.out.size; omega)); have HB6 := Lib.hid (HB5.out.trans (hb6.mono HB5.out.size)); clear ho6 hb6))
        · go_meet
          exact ⟨A6, m6, d6, rfl, by rw [HS.out, optQ_t (by first | exact HBQ.out.symm.trans (by assumption) | exact HBQ.out.symm)], by rw [HS.out, optQ_t (by first | exact HBQ.out.symm.trans (by assumption) | exact HBQ.out.symm)]; exact HO6, HB6⟩
        · go_meet
          exact ⟨_, _, _, rfl, by (rw [HS.out, optQ_f (by first | exact HBQ.out.symm.trans (by assumption) | exact HBQ.out.symm), bothQ_nil]) <;> rfl, by rw [HS.out, optQ_f (by first | exact HBQ.out.symm.trans (by assumption) | exact HBQ.out.symm), bothQ_nil]; exact HOX3, HBY3⟩
      obtain ⟨AX4, mX4, dX4, rfl, rfl, HOX4, HBY4⟩ := hcut
      obtain ⟨wx6, hwo⟩ : ∃ wo, wo = wc := ⟨_, rfl⟩
      subst hwo
      have HRS2 : Hid (rq = s6) := Lib.hid (by rw [HRS.out]; rw [HS.out])
      clear HRS
      have HRS := HRS2
      have HNn5 := HNn
      have hLL5 := hLn
      clear HRS2 HNn hLn hLr HBXi HPi HNI HS hzi k11 k12 HBQ
      go_wp2_with fail
      go_ret2
      rw [HRS.out]
      exact ⟨_, _, _, rfl, HOX4.out.mono HB1.out.size, HB1.out.trans (HBY4.out.mono HB1.out.size)⟩
set_option maxHeartbeats 8000000 in
set_option maxRecDepth 100000 in
theorem rrun8_true {S : Nat → Prop} {w : World} {p : Par} {A1 : Option Addr} {n1 c1 : Nat} {A2 : Option Addr} {n2 c2 : Nat} (hp : RunR S w A1 n1 c1 A2 n2 c2 p.values p.names) (hn : ParN p) (hl : costR p ≤ 140737488100000) :
    Calls Try.prog 28 #[.agg (runV p A1 n1 c1 A2 n2 c2).toArray, .bool true] w fun e w' => ∃ A n c, e = .returned (.tuple #[.slice A n c, .int .i64 (werr (runQ true p))]) ∧ Own w.heap.size w' A n c (wval (runQ true p)) ∧ Below w.heap.size w w' := by
  have HN := Lib.hid hn; clear hn
  have hl1 := Lib.hid hp.values.len
  have hl2 := Lib.hid hp.names.len
  have hc1 := hp.values.cap
  have hm1 := hp.values.capMax
  have hc2 := hp.names.cap
  have hm2 := hp.names.capMax
  have HP := Lib.hid (goesRunR.mono (S' := fun b => b < w.heap.size) hp fun b _ h => h); clear hp
  have hR : runQ true p = bothW (cons p.cons) (bothW (mustQ (runOk true p)) (bothW (.ok (enc 1 (flP p))) (bothW (optQ (decide (0 < p.values.length)) (valsQ p.names p.values)) (bothW (optQ p.paged (.ok (enc 4 (p.page % 4294967296).toNat)))
    (bothW (optQ p.resumed (value p.state)) (bothW (optQ p.serially (cons p.serial)) (optQ p.timed (.ok (enc 8 (p.time % 18446744073709551616).toNat))))))))) := rfl
  have HR := Lib.hid hR; clear hR
  obtain ⟨f, hf⟩ : ∃ f, f = flP p := ⟨_, rfl⟩
  have hfn : f = fl7 (decide (0 < n1)) p.skip p.paged p.resumed p.serially p.timed (decide (0 < n2)) := by rw [hf, hl1.out, hl2.out]; rfl
  have hflt : f < 128 := by rw [hf]; exact fl7_lt _ _ _ _ _ _ _
  have HF := Lib.hid hf; clear hf
  have HFN := Lib.hid hfn; clear hfn
  have HL := Lib.hid (show 2 * costE (elsQ p.names p.values) + p.state.bytes.length ≤ 140737488100000 from hl); clear hl
  obtain ⟨cs, values, names, sk, pd, pg, rs, sv, sl, sr, td, tm⟩ := p
  have hN1 := HN.out.cons
  have hN2 := HN.out.serial
  have hN3 := HN.out.page
  have hN4 := HN.out.time
  dsimp only at hN1 hN2 hN3 hN4
  obtain ⟨rq, hrq⟩ : ∃ rq, rq = runQ true ⟨cs, values, names, sk, pd, pg, rs, sv, sl, sr, td, tm⟩ := ⟨_, rfl⟩
  rw [← hrq] at HR ⊢
  clear hrq
  simp only [runV]
  go_enter Try.func28, Try.ntmps28
  go_upto_region 1 with fail
  obtain ⟨w1, hw1⟩ : ∃ w1, w1 = w.alloc (.cells [.int .u16 (cs : Int), .slice A1 n1 c1, .slice A2 n2 c2, .bool sk, .bool pd, .int .i32 pg, .bool rs, .int .i64 sv.kind, .string (str sv.bytes), .bool sl, .int .u16 (sr : Int), .bool td, .int .i64 tm].toArray 45) := ⟨_, rfl⟩
  rw [← hw1]
  have hB1 : Below w.heap.size w w1 := by rw [hw1]; exact (Below.refl _ _).alloc (Nat.le_refl _) _
  have hbx : Bx (fun b => b = w.heap.size) w1 w.heap.size [.int .u16 (cs : Int), .slice A1 n1 c1, .slice A2 n2 c2, .bool sk, .bool pd, .int .i32 pg, .bool rs, .int .i64 sv.kind, .string (str sv.bytes), .bool sl, .int .u16 (sr : Int), .bool td, .int .i64 tm] := by
    rw [hw1]; exact Bx.alloc w _ 45 (S := fun b => b = w.heap.size) rfl rfl
  have HBX := Lib.hid hbx; clear hbx hw1
  have HB1 := Lib.hid hB1; clear hB1
  have HP1 := Lib.hid (goesRunR.after HP.out HB1.out)
  have k0 := HBX.out.c 0 _ rfl
  obtain ⟨cr, hcr⟩ : ∃ cr, cr = cons cs := ⟨_, rfl⟩
  have HCR := Lib.hid hcr; clear hcr
  go_upto_if 22 with (first | (go_at_call 66; refine (rcons_any (cs : Int) _ (by omega) (by omega) cr (by rw [Int.toNat_natCast]; exact HCR.out.symm)).mono ?_; rintro e w2 ⟨A2', m2, d2, rfl, ho2, hb2⟩; have HO2 := Lib.hid ho2; have HB2 := Lib.hid hb2; clear ho2 hb2))
  cases cr with
  | error e =>
    have hne : (e != 0) = true := by simpa using cons_ne8 HCR.out.symm
    rw [werr_er]
    have HE : Hid (rq = .error e) := Lib.hid (by rw [HR.out, ← HCR.out]; rfl)
    go_wp2_with fail
    go_ret2
    rw [HE.out]
    exact ⟨none, 0, 0, rfl, Own.nil, HB1.out.trans (HB2.out.mono HB1.out.size)⟩
  | ok cb =>
    rw [werr_ok, wval_ok] at *
    have HBX2 := Lib.hid (goesBx.after HBX.out HB2.out)
    clear k0
    have k1 := HBX2.out.c 1 _ rfl
    have k2 := HBX2.out.c 2 _ rfl
    go_upto_region 5 with (first | (refine wpList_loadB HBX2.out (by rfl) 45 _ (by rfl) (by rfl) _ Try.underlying45 rfl (by kernel_rfl) ?_) | (go_at_call 67; refine (rflags8_any (p := ⟨cs, values, names, sk, pd, pg, rs, sv, sl, sr, td, tm⟩)).mono ?_; rintro e w3 ⟨rfl, hb3⟩; have HB3 := Lib.hid (HB2.out.trans (hb3.mono HB2.out.size)); have HO3 := Lib.hid (HO2.out.after hb3); have HBX3 := Lib.hid (goesBx.after HBX2.out hb3); replace k1 := kcell hb3 k1; replace k2 := kcell hb3 k2; clear hb3))
    rw [show fl7 (decide (0 < n1)) (Par.mk cs values names sk pd pg rs sv sl sr td tm).skip (Par.mk cs values names sk pd pg rs sv sl sr td tm).paged (Par.mk cs values names sk pd pg rs sv sl sr td tm).resumed (Par.mk cs values names sk pd pg rs sv sl sr td tm).serially (Par.mk cs values names sk pd pg rs sv sl sr td tm).timed (decide (0 < n2)) = f from HFN.out.symm]
    obtain ⟨β, hβ⟩ : ∃ β, β = runOk true ⟨cs, values, names, sk, pd, pg, rs, sv, sl, sr, td, tm⟩ := ⟨_, rfl⟩
    have HBE := Lib.hid hβ; clear hβ
    go_cut [50] (fun v wx => v = .bool (!β) ∧ w3 = wx)
    case first =>
      by_cases hbad : 0 < n2 ∧ n2 ≠ n1
      · obtain ⟨hb1, hb2⟩ := hbad
        have HB0 : Hid (β = false) := Lib.hid (by rw [HBE.out]; exact runOk_bad (by dsimp only; have := hl1.out; have := hl2.out; omega))
        have hb3 : (n2 : Int) ≠ (n1 : Int) := by omega
        go_wp2_with fail
        all_goals (go_meet; exact ⟨by rw [HB0.out]; rfl, rfl⟩)
      · have HB0 : Hid (β = (!true || noB f)) := Lib.hid (by rw [HBE.out, HF.out]; exact runOk_good (by dsimp only; have := hl1.out; have := hl2.out; omega))
        have hlow := low_flP ⟨cs, values, names, sk, pd, pg, rs, sv, sl, sr, td, tm⟩
        rw [← HF.out] at hlow
        have HLO := Lib.hid hlow; clear hlow
        have hg : ¬ (0 < n2) ∨ n2 = n1 := by omega
        have hg2 : n2 = 0 ∨ n2 = n1 := by omega
        have hfin : ∀ γ : Bool, (γ = true ↔ (f % 16 = 0 ∧ f < 64)) → β = γ := fun γ h => by
          rw [HB0.out, Bool.not_true, Bool.false_or]
          cases hx : noB f with
          | true => exact (h.2 (HLO.out.1 hx)).symm
          | false =>
            cases hy : γ with
            | true => have := HLO.out.2 (h.1 hy); rw [hx] at this; cases this
            | false => rfl
        have HFI := Lib.hid hfin; clear hfin
        clear hbad hg
        have fin : ∀ P : Prop, P → P := fun _ h => h
        rcases hg2 with h | h
        · subst h
          by_cases hlow : 0 < f % 16
          · have HB1' : Hid (β = false) := Lib.hid (HFI.out false ⟨fun e => (by cases e), fun e => by omega⟩)
            go_wp2_with fail
            all_goals (go_meet; exact ⟨by rw [HB1'.out]; first | rfl | exact congrArg Value.bool (by simp; omega), rfl⟩)
          · by_cases h64 : 64 ≤ f
            · have HB1' : Hid (β = false) := Lib.hid (HFI.out false ⟨fun e => (by cases e), fun e => by omega⟩)
              go_wp2_with fail
              all_goals (go_meet; exact ⟨by rw [HB1'.out]; first | rfl | exact congrArg Value.bool (by simp; omega), rfl⟩)
            · have HB1' : Hid (β = true) := Lib.hid (HFI.out true ⟨fun _ => by omega, fun _ => rfl⟩)
              go_wp2_with fail
              all_goals (go_meet; exact ⟨by rw [HB1'.out]; first | rfl | exact congrArg Value.bool (by simp; omega), rfl⟩)
        · have hb3 : ((n2 : Int) != (n1 : Int)) = false := by simp [h]
          clear h
          by_cases hlow : 0 < f % 16
          · have HB1' : Hid (β = false) := Lib.hid (HFI.out false ⟨fun e => (by cases e), fun e => by omega⟩)
            go_wp2_with fail
            all_goals (go_meet; exact ⟨by rw [HB1'.out]; first | rfl | exact congrArg Value.bool (by simp; omega), rfl⟩)
          · by_cases h64 : 64 ≤ f
            · have HB1' : Hid (β = false) := Lib.hid (HFI.out false ⟨fun e => (by cases e), fun e => by omega⟩)
              go_wp2_with fail
              all_goals (go_meet; exact ⟨by rw [HB1'.out]; first | rfl | exact congrArg Value.bool (by simp; omega), rfl⟩)
            · have HB1' : Hid (β = true) := Lib.hid (HFI.out true ⟨fun _ => by omega, fun _ => rfl⟩)
              go_wp2_with fail
              all_goals (go_meet; exact ⟨by rw [HB1'.out]; first | rfl | exact congrArg Value.bool (by simp; omega), rfl⟩)
    obtain ⟨rfl, rfl⟩ := hcut
    cases β with
    | false =>
      have HE : Hid (rq = .error 1) := Lib.hid (by rw [HR.out, ← HCR.out, ← HBE.out]; rfl)
      go_wp2_with fail
      go_ret2
      rw [HE.out]
      exact ⟨none, 0, 0, rfl, Own.nil, HB1.out.trans (HB3.out.mono HB1.out.size)⟩
    | true =>
      obtain ⟨fb, hfb⟩ : ∃ x : UInt8, x.toNat = f := ⟨UInt8.ofNat f, by simp; omega⟩
      have HFE : Hid (enc 1 f = [fb]) := Lib.hid (by rw [enc1, ← hfb]; simp)
      have hbv : (#[Value.int .u8 (f : Int)] : Array Value).toList = bv [fb] := by rw [← hfb]; rfl
      have HBV := Lib.hid hbv; clear hbv hfb
      have hlcb : cb.length ≤ 2 := by have := cons_w cs; rw [← HCR.out] at this; exact this
      have HLCB := Lib.hid hlcb; clear hlcb
      have hz3 := HB3.out.size
      go_upto_region 8 with (first | (at_builtin; refine wpList_appw rfl _ _ rfl w1.heap.size _ _ _ cb rfl (HO3.out.after ((Below.refl _ _).alloc (Nat.le_refl _) _)) _ _ _ _ [fb] rfl (sl_lit _ _ 1 [fb] HBV.out rfl (by decide) (by first | rfl | simp)) (by have := HLCB.out; simp only [List.length_cons, List.length_nil]; omega) (by simp; omega) ?_; intro A4 m4 d4 w4 hown4 hg4 hw4; (have HO4 := Lib.hid hown4; have HB4 := Lib.hid (HB3.out.trans (below_grow (((Below.refl w3.heap.size w3).mono hz3).alloc hz3 _) hg4 (by simp; omega) fun b e => (HO3.out.block b e).1)); clear hown4 hg4 hw4)))
      have HO4' : Hid (Own w1.heap.size w4 A4 m4 d4 (cb ++ [fb])) := HO4
      have HN1 : Hid (Nw (.ok (cb ++ [fb]) : Wr)) := Nw.ok _
      have hL1 : lenW (.ok (cb ++ [fb]) : Wr) ≤ 3 := by show (cb ++ [fb]).length ≤ 3; have := HLCB.out; rw [List.length_append]; simp only [List.length_cons, List.length_nil]; omega
      have HRS : Hid (rq = bothW (.ok (cb ++ [fb]) : Wr) (bothW (optQ (decide (0 < values.length)) (valsQ names values)) (bothW (optQ pd (.ok (enc 4 (pg % 4294967296).toNat))) (bothW (optQ rs (value sv)) (bothW (optQ sl (cons sr)) (optQ td (.ok (enc 8 (tm % 18446744073709551616).toNat)))))))) := Lib.hid (by
        rw [HR.out, ← HCR.out, ← HBE.out, show mustQ true = .ok [] from rfl, bothW_left, ← bothW_assoc, ← HF.out, HFE.out]; rfl)
      clear HO4 k1 k2
      obtain ⟨cE, hcE⟩ : ∃ cE, cE = costE (elsQ names values) := ⟨_, rfl⟩
      have hLE : 2 * cE + sv.bytes.length ≤ 140737488100000 := by rw [hcE]; exact HL.out
      have HCE := Lib.hid hcE; clear hcE
      have HBXi := Lib.hid (goesBx.after HBX.out HB4.out)
      have HPi := Lib.hid (goesRunR.after HP1.out HB4.out)
      have k1 := HBXi.out.c 1 _ rfl
      have k2 := HBXi.out.c 2 _ rfl
      obtain ⟨s2, hs2⟩ : ∃ s, s = bothW (.ok (cb ++ [fb]) : Wr) (optQ (decide (0 < values.length)) (valsQ names values)) := ⟨_, rfl⟩
      have HS := Lib.hid hs2; clear hs2
      have HNI := HN1
      have hLn : lenW s2 ≤ 3 + (2 + cE) := by rw [HS.out]; have h1 := lenW_both (.ok (cb ++ [fb]) : Wr) (optQ (decide (0 < values.length)) (valsQ names values)); have h2 := opt_le (b := (decide (0 < values.length))) (vals_le names values); have := HCE.out; omega
      have hLr := opt_le (b := (decide (0 < values.length))) (vals_le names values)
      have HNn : Hid (Nw s2) := Lib.hid (by rw [HS.out]; exact HNI.out.both (nwOpt (nwVals _ _)))
      have hzi := HB4.out.size
      go_upto_if 58 with fail
      go_cut [6, 7] (fun b e wx => ∃ A m c, b = .slice A m c ∧ e = .int .i64 (werr s2) ∧ Hid (Own w1.heap.size wx A m c (wval s2)) ∧ Hid (Below w1.heap.size w1 wx))
      case first =>
        by_cases h : 0 < n1
        · have hv : decide (0 < values.length) = true := decide_eq_true (by have := hl1.out; omega)
          have HVT := Lib.hid hv; clear hv
          have HNM : Hid (names = [] ∨ names.length = values.length) := Lib.hid (by
            have := HBE.out.symm
            by_cases hh : names.length = 0 ∨ names.length = values.length
            · rcases hh with hh | hh
              · exact .inl (List.length_eq_zero_iff.1 hh)
              · exact .inr hh
            · rw [runOk_bad hh] at this; cases this)
          rw [HVT.out] at hLr
          replace hLr : lenW (valsQ names values) ≤ 2 + cE := by rw [HCE.out]; exact hLr
          have hd : decide ((0 : Int) < (n1 : Int)) = true := decide_eq_true (by omega)
          go_wp2_with (first | (go_at_call 32; (refine (rvals8_any HPi.out.values HPi.out.names HNM.out (by have := HCE.out; omega)).mono ?_); rintro e w5 ⟨A5, m5, d5, rfl, ho5, hb5⟩; have HO5 := Lib.hid ho5; have HB5 := Lib.hid (HB4.out.trans (hb5.mono HB4.out.size)); have HOk := Lib.hid (HO4'.out.after hb5); clear ho5 hb5) | (go_at_call 29; (refine (rjoin8_any (s := (.ok (cb ++ [fb]) : Wr)) (r := (valsQ names values)) HOk.out.sl HO5.out.sl HNI.out (nwVals _ _) (by omega)).mono ?_); rintro e w6 ⟨A6, m6, d6, rfl, ho6, hb6⟩; have HO6 := Lib.hid (ho6.mono (by have := HB5.out.size; omega)); have HB6 := Lib.hid (HB5.out.trans (hb6.mono HB5.out.size)); clear ho6 hb6))
          go_meet
          exact ⟨A6, m6, d6, rfl, by rw [HS.out, optQ_t HVT.out], by rw [HS.out, optQ_t HVT.out]; exact HO6, HB6⟩
        · have hv : decide (0 < values.length) = false := decide_eq_false (by have := hl1.out; omega)
          have HVT := Lib.hid hv; clear hv
          have hd : decide ((0 : Int) < (n1 : Int)) = false := decide_eq_false (by omega)
          go_wp2_with fail
          go_meet
          exact ⟨_, _, _, rfl, by (rw [HS.out, optQ_f HVT.out, bothQ_nil]) <;> rfl, by rw [HS.out, optQ_f HVT.out, bothQ_nil]; exact HO4', HB4⟩
      obtain ⟨AX0, mX0, dX0, rfl, rfl, HOX0, HBY0⟩ := hcut
      obtain ⟨wx2, hwo⟩ : ∃ wo, wo = wc := ⟨_, rfl⟩
      subst hwo
      have HRS2 : Hid (rq = bothW s2 (bothW (optQ pd (.ok (enc 4 (pg % 4294967296).toNat))) (bothW (optQ rs (value sv)) (bothW (optQ sl (cons sr)) (optQ td (.ok (enc 8 (tm % 18446744073709551616).toNat))))))) := Lib.hid (by rw [HRS.out]; rw [← bothW_assoc, ← HS.out])
      clear HRS
      have HRS := HRS2
      have HNn1 := HNn
      have hLL1 := hLn
      clear HRS2 HNn hLn hLr HBXi HPi HNI HS hzi k1 k2
      have HBXi := Lib.hid (goesBx.after HBX.out HBY0.out)
      have HPi := Lib.hid (goesRunR.after HP1.out HBY0.out)
      have k4 := HBXi.out.c 4 _ rfl
      have k5 := HBXi.out.c 5 _ rfl
      obtain ⟨bq, hbq⟩ : ∃ x, x = pd := ⟨_, rfl⟩
      rw [← hbq] at k4
      have HBQ := Lib.hid hbq; clear hbq
      obtain ⟨s3, hs2⟩ : ∃ s, s = bothW s2 (optQ pd (.ok (enc 4 (pg % 4294967296).toNat))) := ⟨_, rfl⟩
      have HS := Lib.hid hs2; clear hs2
      have HNI := HNn1
      have hLn : lenW s3 ≤ 9 + cE := by rw [HS.out]; have h1 := lenW_both s2 (optQ pd (.ok (enc 4 (pg % 4294967296).toNat))); have h2 := opt_le (b := pd) (r := .ok (enc 4 (pg % 4294967296).toNat)) (n := 4) (by show (enc 4 _).length ≤ 4; rw [enc_length]; exact Nat.le_refl _); have := HCE.out; omega
      have hLr := opt_le (b := pd) (r := .ok (enc 4 (pg % 4294967296).toNat)) (n := 4) (by show (enc 4 _).length ≤ 4; rw [enc_length]; exact Nat.le_refl _)
      have HNn : Hid (Nw s3) := Lib.hid (by rw [HS.out]; exact HNI.out.both (nwOpt (Nw.ok _)))
      have hzi := HBY0.out.size
      go_upto_if 76 with fail
      go_cut [6, 7] (fun b e wx => ∃ A m c, b = .slice A m c ∧ e = .int .i64 (werr s3) ∧ Hid (Own w1.heap.size wx A m c (wval s3)) ∧ Hid (Below w1.heap.size w1 wx))
      case first =>
        have hLq : lenW ((.ok (enc 4 (pg % 4294967296).toNat)) : Wr) ≤ 4 := (by show (enc 4 _).length ≤ 4; rw [enc_length]; exact Nat.le_refl _)
        go_wp2_with (first | (go_at_call 64; (refine (rput_any (pg % 4294967296) 4 _ (by omega) (by omega) (by omega) (by omega)).mono ?_); rintro e w5 ⟨A5, m5, d5, rfl, ho5, hb5⟩; have HO5 := Lib.hid ho5; have HB5 := Lib.hid (HBY0.out.trans (hb5.mono HBY0.out.size)); have HOk := Lib.hid (HOX0.out.after hb5); clear ho5 hb5) | (go_at_call 29; (refine (rjoin8_any (s := s2) (r := (.ok (enc 4 (pg % 4294967296).toNat))) HOk.out.sl HO5.out.sl HNI.out (Nw.ok _) (by omega)).mono ?_); rintro e w6 ⟨A6, m6, d6, rfl, ho6, hb6⟩; have HO6 := Lib.hid (ho6.mono (by have := HB5.out.size; omega)); have HB6 := Lib.hid (HB5.out.trans (hb6.mono HB5.out.size)); clear ho6 hb6))
        · go_meet
          exact ⟨A6, m6, d6, rfl, by rw [HS.out, optQ_t (by first | exact HBQ.out.symm.trans (by assumption) | exact HBQ.out.symm)], by rw [HS.out, optQ_t (by first | exact HBQ.out.symm.trans (by assumption) | exact HBQ.out.symm)]; exact HO6, HB6⟩
        · go_meet
          exact ⟨_, _, _, rfl, by (rw [HS.out, optQ_f (by first | exact HBQ.out.symm.trans (by assumption) | exact HBQ.out.symm), bothQ_nil]) <;> rfl, by rw [HS.out, optQ_f (by first | exact HBQ.out.symm.trans (by assumption) | exact HBQ.out.symm), bothQ_nil]; exact HOX0, HBY0⟩
      obtain ⟨AX1, mX1, dX1, rfl, rfl, HOX1, HBY1⟩ := hcut
      obtain ⟨wx3, hwo⟩ : ∃ wo, wo = wc := ⟨_, rfl⟩
      subst hwo
      have HRS2 : Hid (rq = bothW s3 (bothW (optQ rs (value sv)) (bothW (optQ sl (cons sr)) (optQ td (.ok (enc 8 (tm % 18446744073709551616).toNat)))))) := Lib.hid (by rw [HRS.out]; rw [← bothW_assoc, ← HS.out])
      clear HRS
      have HRS := HRS2
      have HNn2 := HNn
      have hLL2 := hLn
      clear HRS2 HNn hLn hLr HBXi HPi HNI HS hzi k4 k5 HBQ
      have HBXi := Lib.hid (goesBx.after HBX.out HBY1.out)
      have HPi := Lib.hid (goesRunR.after HP1.out HBY1.out)
      have k6 := HBXi.out.c 6 _ rfl
      have k7 := HBXi.out.c 7 _ rfl
      have k8 := HBXi.out.c 8 _ rfl
      obtain ⟨bq, hbq⟩ : ∃ x, x = rs := ⟨_, rfl⟩
      rw [← hbq] at k6
      have HBQ := Lib.hid hbq; clear hbq
      obtain ⟨s4, hs2⟩ : ∃ s, s = bothW s3 (optQ rs (value sv)) := ⟨_, rfl⟩
      have HS := Lib.hid hs2; clear hs2
      have HNI := HNn2
      have hLn : lenW s4 ≤ 13 + cE + sv.bytes.length := by rw [HS.out]; have h1 := lenW_both s3 (optQ rs (value sv)); have h2 := opt_le (b := rs) (value_le sv); have := HCE.out; omega
      have hLr := opt_le (b := rs) (value_le sv)
      have HNn : Hid (Nw s4) := Lib.hid (by rw [HS.out]; exact HNI.out.both (nwOpt (nwValue _)))
      have hzi := HBY1.out.size
      go_upto_if 89 with fail
      go_cut [6, 7] (fun b e wx => ∃ A m c, b = .slice A m c ∧ e = .int .i64 (werr s4) ∧ Hid (Own w1.heap.size wx A m c (wval s4)) ∧ Hid (Below w1.heap.size w1 wx))
      case first =>
        have hLq : lenW ((value sv) : Wr) ≤ 4 + sv.bytes.length := value_le sv
        go_wp2_with (first | (go_at_call 27; (refine (rvalue_any sv _ (by omega) (value sv) rfl).mono ?_); rintro e w5 ⟨A5, m5, d5, rfl, ho5, hb5⟩; have HO5 := Lib.hid ho5; have HB5 := Lib.hid (HBY1.out.trans (hb5.mono HBY1.out.size)); have HOk := Lib.hid (HOX1.out.after hb5); clear ho5 hb5) | (go_at_call 29; (refine (rjoin8_any (s := s3) (r := (value sv)) HOk.out.sl HO5.out.sl HNI.out (nwValue _) (by omega)).mono ?_); rintro e w6 ⟨A6, m6, d6, rfl, ho6, hb6⟩; have HO6 := Lib.hid (ho6.mono (by have := HB5.out.size; omega)); have HB6 := Lib.hid (HB5.out.trans (hb6.mono HB5.out.size)); clear ho6 hb6))
        · go_meet
          exact ⟨A6, m6, d6, rfl, by rw [HS.out, optQ_t (by first | exact HBQ.out.symm.trans (by assumption) | exact HBQ.out.symm)], by rw [HS.out, optQ_t (by first | exact HBQ.out.symm.trans (by assumption) | exact HBQ.out.symm)]; exact HO6, HB6⟩
        · go_meet
          exact ⟨_, _, _, rfl, by (rw [HS.out, optQ_f (by first | exact HBQ.out.symm.trans (by assumption) | exact HBQ.out.symm), bothQ_nil]) <;> rfl, by rw [HS.out, optQ_f (by first | exact HBQ.out.symm.trans (by assumption) | exact HBQ.out.symm), bothQ_nil]; exact HOX1, HBY1⟩
      obtain ⟨AX2, mX2, dX2, rfl, rfl, HOX2, HBY2⟩ := hcut
      obtain ⟨wx4, hwo⟩ : ∃ wo, wo = wc := ⟨_, rfl⟩
      subst hwo
      have HRS2 : Hid (rq = bothW s4 (bothW (optQ sl (cons sr)) (optQ td (.ok (enc 8 (tm % 18446744073709551616).toNat))))) := Lib.hid (by rw [HRS.out]; rw [← bothW_assoc, ← HS.out])
      clear HRS
      have HRS := HRS2
      have HNn3 := HNn
      have hLL3 := hLn
      clear HRS2 HNn hLn hLr HBXi HPi HNI HS hzi k6 k7 k8 HBQ
      have HBXi := Lib.hid (goesBx.after HBX.out HBY2.out)
      have HPi := Lib.hid (goesRunR.after HP1.out HBY2.out)
      have k9 := HBXi.out.c 9 _ rfl
      have k10 := HBXi.out.c 10 _ rfl
      obtain ⟨bq, hbq⟩ : ∃ x, x = sl := ⟨_, rfl⟩
      rw [← hbq] at k9
      have HBQ := Lib.hid hbq; clear hbq
      obtain ⟨s5, hs2⟩ : ∃ s, s = bothW s4 (optQ sl (cons sr)) := ⟨_, rfl⟩
      have HS := Lib.hid hs2; clear hs2
      have HNI := HNn3
      have hLn : lenW s5 ≤ 15 + cE + sv.bytes.length := by rw [HS.out]; have h1 := lenW_both s4 (optQ sl (cons sr)); have h2 := opt_le (b := sl) (cons_w sr); have := HCE.out; omega
      have hLr := opt_le (b := sl) (cons_w sr)
      have HNn : Hid (Nw s5) := Lib.hid (by rw [HS.out]; exact HNI.out.both (nwOpt (nwCons _)))
      have hzi := HBY2.out.size
      go_upto_if 105 with fail
      go_cut [6, 7] (fun b e wx => ∃ A m c, b = .slice A m c ∧ e = .int .i64 (werr s5) ∧ Hid (Own w1.heap.size wx A m c (wval s5)) ∧ Hid (Below w1.heap.size w1 wx))
      case first =>
        have hLq : lenW ((cons sr) : Wr) ≤ 2 := cons_w sr
        go_wp2_with (first | (go_at_call 66; (refine (rcons_any (sr : Int) _ (by omega) (by omega) (cons sr) (by rw [Int.toNat_natCast])).mono ?_); rintro e w5 ⟨A5, m5, d5, rfl, ho5, hb5⟩; have HO5 := Lib.hid ho5; have HB5 := Lib.hid (HBY2.out.trans (hb5.mono HBY2.out.size)); have HOk := Lib.hid (HOX2.out.after hb5); clear ho5 hb5) | (go_at_call 29; (refine (rjoin8_any (s := s4) (r := (cons sr)) HOk.out.sl HO5.out.sl HNI.out (nwCons _) (by omega)).mono ?_); rintro e w6 ⟨A6, m6, d6, rfl, ho6, hb6⟩; have HO6 := Lib.hid (ho6.mono (by have := HB5.out.size; omega)); have HB6 := Lib.hid (HB5.out.trans (hb6.mono HB5.out.size)); clear ho6 hb6))
        · go_meet
          exact ⟨A6, m6, d6, rfl, by rw [HS.out, optQ_t (by first | exact HBQ.out.symm.trans (by assumption) | exact HBQ.out.symm)], by rw [HS.out, optQ_t (by first | exact HBQ.out.symm.trans (by assumption) | exact HBQ.out.symm)]; exact HO6, HB6⟩
        · go_meet
          exact ⟨_, _, _, rfl, by (rw [HS.out, optQ_f (by first | exact HBQ.out.symm.trans (by assumption) | exact HBQ.out.symm), bothQ_nil]) <;> rfl, by rw [HS.out, optQ_f (by first | exact HBQ.out.symm.trans (by assumption) | exact HBQ.out.symm), bothQ_nil]; exact HOX2, HBY2⟩
      obtain ⟨AX3, mX3, dX3, rfl, rfl, HOX3, HBY3⟩ := hcut
      obtain ⟨wx5, hwo⟩ : ∃ wo, wo = wc := ⟨_, rfl⟩
      subst hwo
      have HRS2 : Hid (rq = bothW s5 (optQ td (.ok (enc 8 (tm % 18446744073709551616).toNat)))) := Lib.hid (by rw [HRS.out]; rw [← bothW_assoc, ← HS.out])
      clear HRS
      have HRS := HRS2
      have HNn4 := HNn
      have hLL4 := hLn
      clear HRS2 HNn hLn hLr HBXi HPi HNI HS hzi k9 k10 HBQ
      have HBXi := Lib.hid (goesBx.after HBX.out HBY3.out)
      have HPi := Lib.hid (goesRunR.after HP1.out HBY3.out)
      have k11 := HBXi.out.c 11 _ rfl
      have k12 := HBXi.out.c 12 _ rfl
      obtain ⟨bq, hbq⟩ : ∃ x, x = td := ⟨_, rfl⟩
      rw [← hbq] at k11
      have HBQ := Lib.hid hbq; clear hbq
      obtain ⟨s6, hs2⟩ : ∃ s, s = bothW s5 (optQ td (.ok (enc 8 (tm % 18446744073709551616).toNat))) := ⟨_, rfl⟩
      have HS := Lib.hid hs2; clear hs2
      have HNI := HNn4
      have hLn : lenW s6 ≤ 23 + cE + sv.bytes.length := by rw [HS.out]; have h1 := lenW_both s5 (optQ td (.ok (enc 8 (tm % 18446744073709551616).toNat))); have h2 := opt_le (b := td) (r := .ok (enc 8 (tm % 18446744073709551616).toNat)) (n := 8) (by show (enc 8 _).length ≤ 8; rw [enc_length]; exact Nat.le_refl _); have := HCE.out; omega
      have hLr := opt_le (b := td) (r := .ok (enc 8 (tm % 18446744073709551616).toNat)) (n := 8) (by show (enc 8 _).length ≤ 8; rw [enc_length]; exact Nat.le_refl _)
      have HNn : Hid (Nw s6) := Lib.hid (by rw [HS.out]; exact HNI.out.both (nwOpt (Nw.ok _)))
      have hzi := HBY3.out.size
      go_upto_if 121 with fail
      go_cut [6, 7] (fun b e wx => ∃ A m c, b = .slice A m c ∧ e = .int .i64 (werr s6) ∧ Hid (Own w1.heap.size wx A m c (wval s6)) ∧ Hid (Below w1.heap.size w1 wx))
      case first =>
        have hLq : lenW ((.ok (enc 8 (tm % 18446744073709551616).toNat)) : Wr) ≤ 8 := (by show (enc 8 _).length ≤ 8; rw [enc_length]; exact Nat.le_refl _)
        go_wp2_with (first | (go_at_call 64; (refine (rput_any (tm % 18446744073709551616) 8 _ (by omega) (by omega) (by omega) (by omega)).mono ?_); rintro e w5 ⟨A5, m5, d5, rfl, ho5, hb5⟩; have HO5 := Lib.hid ho5; have HB5 := Lib.hid (HBY3.out.trans (hb5.mono HBY3.out.size)); have HOk := Lib.hid (HOX3.out.after hb5); clear ho5 hb5) | (go_at_call 29; (refine (rjoin8_any (s := s5) (r := (.ok (enc 8 (tm % 18446744073709551616).toNat))) HOk.out.sl HO5.out.sl HNI.out (Nw.ok _) (by omega)).mono ?_); rintro e w6 ⟨A6, m6, d6, rfl, ho6, hb6⟩; have HO6 := Lib.hid (ho6.mono (by have := HB5.out.size; omega)); have HB6 := Lib.hid (HB5.out.trans (hb6.mono HB5.out.size)); clear ho6 hb6))
        · go_meet
          exact ⟨A6, m6, d6, rfl, by rw [HS.out, optQ_t (by first | exact HBQ.out.symm.trans (by assumption) | exact HBQ.out.symm)], by rw [HS.out, optQ_t (by first | exact HBQ.out.symm.trans (by assumption) | exact HBQ.out.symm)]; exact HO6, HB6⟩
        · go_meet
          exact ⟨_, _, _, rfl, by (rw [HS.out, optQ_f (by first | exact HBQ.out.symm.trans (by assumption) | exact HBQ.out.symm), bothQ_nil]) <;> rfl, by rw [HS.out, optQ_f (by first | exact HBQ.out.symm.trans (by assumption) | exact HBQ.out.symm), bothQ_nil]; exact HOX3, HBY3⟩
      obtain ⟨AX4, mX4, dX4, rfl, rfl, HOX4, HBY4⟩ := hcut
      obtain ⟨wx6, hwo⟩ : ∃ wo, wo = wc := ⟨_, rfl⟩
      subst hwo
      have HRS2 : Hid (rq = s6) := Lib.hid (by rw [HRS.out]; rw [HS.out])
      clear HRS
      have HRS := HRS2
      have HNn5 := HNn
      have hLL5 := hLn
      clear HRS2 HNn hLn hLr HBXi HPi HNI HS hzi k11 k12 HBQ
      go_wp2_with fail
      go_ret2
      rw [HRS.out]
      exact ⟨_, _, _, rfl, HOX4.out.mono HB1.out.size, HB1.out.trans (HBY4.out.mono HB1.out.size)⟩
theorem rrun8_any {S : Nat → Prop} {w : World} {p : Par} {bt : Bool} {A1 : Option Addr} {n1 c1 : Nat} {A2 : Option Addr} {n2 c2 : Nat} (hp : RunR S w A1 n1 c1 A2 n2 c2 p.values p.names) (hn : ParN p) (hl : costR p ≤ 140737488100000) :
    Calls Try.prog 28 #[.agg (runV p A1 n1 c1 A2 n2 c2).toArray, .bool bt] w fun e w' => ∃ A n c, e = .returned (.tuple #[.slice A n c, .int .i64 (werr (runQ bt p))]) ∧ Own w.heap.size w' A n c (wval (runQ bt p)) ∧ Below w.heap.size w w' := by
  cases bt with
  | false => exact rrun8_false hp hn hl
  | true => exact rrun8_true hp hn hl
end Go.Proofs.Sb

/- Walks over signalboxref08.short, Put. Conditions: sums of lengths up to 2^47. (written by gen_rqref3.py) -/
namespace Go.Proofs.Sb
open Go.RowKit _root_.Sb
/-- a statement of the reference in four cells -/
def stmRf (S : Nat → Prop) (w : World) (x : Stm) (c : List Value) : Prop := ∃ A n k, c = [.bool x.prepared, .string (str x.text), .string (str x.ident), .slice A n k] ∧ x.text.length ≤ 9223372036854775807 ∧ x.ident.length ≤ 9223372036854775807 ∧ Arr 2 valRf S w A n k x.values
theorem goesStmRf (x : Stm) (c : List Value) : Goes fun S w => stmRf S w x c :=
  ⟨fun ⟨A, n, k, e, h1, h2, h3⟩ hs hk => ⟨A, n, k, e, h1, h2, goesArr.keep h3 hs hk⟩, fun ⟨A, n, k, e, h1, h2, h3⟩ hS => ⟨A, n, k, e, h1, h2, goesArr.mono h3 hS⟩⟩
theorem stmRf_one {S : Nat → Prop} {w : World} (x : Stm) (c : List Value) (h : stmRf S w x c) : ∀ u ∈ c, u.oneCell' = true := by
  obtain ⟨A, n, k, rfl, _⟩ := h
  intro u hu
  simp only [List.mem_cons, List.not_mem_nil, or_false] at hu
  rcases hu with rfl | rfl | rfl | rfl <;> rfl
theorem goesItem (x : Thing) (c : List Value) : Goes fun S w => itemP S w x c :=
  ⟨fun h hs hk => h.imp fun _ _ _ _ h => goesArr.keep h hs hk, fun h hS => h.imp fun _ _ _ _ h => goesArr.mono h hS⟩
/-- a request of the reference in its cells -/
def rfV (q : Rq) (o r1 r2 ev al : Slc) : List Value := [.int .u8 (q.opcode : Int), .slice o.a o.n o.c, .string (str q.text), .string (str q.ident), .int .u16 (q.run.cons : Int), .slice r1.a r1.n r1.c, .slice r2.a r2.n r2.c, .bool q.run.skip, .bool q.run.paged, .int .i32 q.run.page, .bool q.run.resumed, .int .i64 q.run.state.kind, .string (str q.run.state.bytes), .bool q.run.serially, .int .u16 (q.run.serial : Int), .bool q.run.timed, .int .i64 q.run.time, .slice ev.a ev.n ev.c, .int .i64 q.token.kind, .string (str q.token.bytes), .int .u8 (q.kind : Int), .slice al.a al.n al.c]
/-- what its rows read as -/
structure RfR (S : Nat → Prop) (w : World) (q : Rq) (o r1 r2 ev al : Slc) : Prop where
  options : Arr 5 (itemP S w) S w o.a o.n o.c (q.options.map .ofPair)
  run : RunR S w r1.a r1.n r1.c r2.a r2.n r2.c q.run.values q.run.names
  events : Arr 5 (itemP S w) S w ev.a ev.n ev.c (q.events.map .ofText)
  all : Arr 4 (stmRf S w) S w al.a al.n al.c q.all
theorem goesArrI {A : Option Addr} {n c : Nat} {l : List Thing} : Goes fun S w => Arr 5 (itemP S w) S w A n c l :=
  ⟨fun h hs hk => (goesArr.keep h hs hk).imp fun x _ v hp => (goesItem x v).keep hp hs hk, fun h hS => (goesArr.mono h hS).imp fun x _ v hp => (goesItem x v).mono hp hS⟩
theorem goesArrF {A : Option Addr} {n c : Nat} {l : List Stm} : Goes fun S w => Arr 4 (stmRf S w) S w A n c l :=
  ⟨fun h hs hk => (goesArr.keep h hs hk).imp fun x _ v hp => (goesStmRf x v).keep hp hs hk, fun h hS => (goesArr.mono h hS).imp fun x _ v hp => (goesStmRf x v).mono hp hS⟩
theorem goesRf {q : Rq} {o r1 r2 ev al : Slc} : Goes fun S w => RfR S w q o r1 r2 ev al :=
  ⟨fun h hs hk => ⟨goesArrI.keep h.1 hs hk, goesRunR.keep h.2 hs hk, goesArrI.keep h.3 hs hk, goesArrF.keep h.4 hs hk⟩,
    fun h hS => ⟨goesArrI.mono h.1 hS, goesRunR.mono h.2 hS, goesArrI.mono h.3 hS, goesArrF.mono h.4 hS⟩⟩
set_option maxHeartbeats 1000000 in
set_option maxRecDepth 100000 in
theorem rsh8_any (s : B) (w : World) (hs : s.length ≤ 9223372036854775807) :
    Calls Try.prog 30 #[.string (str s)] w fun e w' => ∃ A n c, e = .returned (.tuple #[.slice A n c, .int .i64 (werr (text s))]) ∧ Own w.heap.size w' A n c (wval (text s)) ∧ Below w.heap.size w w' := by
  go_enter Try.func30, Try.ntmps30
  go_wp2_with (first | (go_at_call 65; refine (rtext_any s _ hs (text s) rfl).mono ?_; rintro e w1 ⟨A, n, c, rfl, ho, hb⟩; have HO := Lib.hid ho; have HB := Lib.hid hb; clear ho hb))
  go_ret2
  exact ⟨A, n, c, rfl, HO.out, HB.out⟩
set_option maxHeartbeats 8000000 in
set_option maxRecDepth 100000 in
theorem rPut8_any {S : Nat → Prop} {w : World} {q : Rq} {o r1 r2 ev al : Slc} (hq : RfR S w q o r1 r2 ev al) (hop : q.opcode < 256) (hkd : q.kind < 256) (hpn : ParN q.run) (hl : costQ q ≤ 140737488000000) (r : Wr) (hr : putRq q = r) :
    Calls Try.prog 12 #[.agg (rfV q o r1 r2 ev al).toArray] w fun e w' => ∃ A n c, e = .returned (.tuple #[.slice A n c, .int .i64 (werr r)]) ∧ Sl (fun b => w.heap.size ≤ b) w' A n c (wval r) ∧ Below w.heap.size w w' := by
  obtain ⟨op, opts, tx, idn, run, evs, tok, kd, all⟩ := q
  have HP := Lib.hid (goesRf.mono (S' := fun b => b < w.heap.size) hq fun b _ h => h); clear hq
  have HPN : Hid (ParN run) := Lib.hid hpn; clear hpn
  replace hop : op < 256 := hop
  replace hkd : kd < 256 := hkd
  have HL : Hid (2 * costA all + costR run + tx.length + idn.length + tok.bytes.length ≤ 140737488000000) := Lib.hid hl; clear hl
  have HR := Lib.hid hr; clear hr
  have hlA := HL.out
  simp only [rfV]
  go_enter Try.func12, Try.ntmps12
  go_upto_region 1 with fail
  obtain ⟨w1, hw1⟩ : ∃ w1, w1 = w.alloc (.cells [.int .u8 (op : Int), .slice o.a o.n o.c, .string (str tx), .string (str idn), .int .u16 (run.cons : Int), .slice r1.a r1.n r1.c, .slice r2.a r2.n r2.c, .bool run.skip, .bool run.paged, .int .i32 run.page, .bool run.resumed, .int .i64 run.state.kind, .string (str run.state.bytes), .bool run.serially, .int .u16 (run.serial : Int), .bool run.timed, .int .i64 run.time, .slice ev.a ev.n ev.c, .int .i64 tok.kind, .string (str tok.bytes), .int .u8 (kd : Int), .slice al.a al.n al.c].toArray 48) := ⟨_, rfl⟩
  rw [← hw1]
  have hB1 : Below w.heap.size w w1 := by rw [hw1]; exact (Below.refl _ _).alloc (Nat.le_refl _) _
  have hbx : Bx (fun b => b = w.heap.size) w1 w.heap.size [.int .u8 (op : Int), .slice o.a o.n o.c, .string (str tx), .string (str idn), .int .u16 (run.cons : Int), .slice r1.a r1.n r1.c, .slice r2.a r2.n r2.c, .bool run.skip, .bool run.paged, .int .i32 run.page, .bool run.resumed, .int .i64 run.state.kind, .string (str run.state.bytes), .bool run.serially, .int .u16 (run.serial : Int), .bool run.timed, .int .i64 run.time, .slice ev.a ev.n ev.c, .int .i64 tok.kind, .string (str tok.bytes), .int .u8 (kd : Int), .slice al.a al.n al.c] := by
    rw [hw1]; exact Bx.alloc w _ 48 (S := fun b => b = w.heap.size) rfl rfl
  have HBX := Lib.hid hbx; clear hbx hw1
  have HB1 := Lib.hid hB1; clear hB1
  have HP1 := Lib.hid (goesRf.after HP.out HB1.out)
  have k0 := HBX.out.c 0 _ rfl
  by_cases hk : knownOp op
  · rcases hk with rfl | rfl | rfl | rfl | rfl | rfl | rfl | rfl
    · have k1 := HBX.out.c 1 _ rfl
      have HE : Hid (r = putL (itemW 1) (opts.map .ofPair)) := Lib.hid (by rw [← HR.out, put_pairs]; rfl)
      go_wp2_with (first | (go_at_call 25; refine (rput1_any (M := 131074) HP1.out.options (fun x hx b h => ?_) (by decide) (fun h => by have := Nat.mul_le_mul_right 131074 h; omega) r HE.out.symm).mono ?_; rotate_left; rintro e w2 ⟨A2, m2, d2, rfl, ho2, hb2⟩; have HO2 := Lib.hid ho2; have HB2 := Lib.hid hb2; clear ho2 hb2))
      · go_ret2
        exact ⟨_, _, _, rfl, (HO2.out.sl.mono (S' := fun b => w.heap.size ≤ b) fun b hb _ => Nat.le_trans HB1.out.size hb), HB1.out.trans (HB2.out.mono HB1.out.size)⟩
      · obtain ⟨p, _, rfl⟩ := List.mem_map.1 hx
        exact pairW_len (p := p) (by simpa [itemW, itemV, Thing.ofPair, pairW] using h)
    · go_wp2_with fail
      go_ret2
      obtain rfl : r = .ok [] := HR.out.symm
      exact ⟨none, 0, 0, rfl, Sl.nil, HB1.out⟩
    · have k2 := HBX.out.c 2 _ rfl
      have hlR := run_le false run
      have hlr : costR run ≤ 140737488000000 := by omega
      have hlw := long_w tx
      go_wp2_with (first | (refine wpList_load_mid (by rfl) 45 _ (by rfl) w.heap.size 4 (by rfl) (runV run r1.a r1.n r1.c r2.a r2.n r2.c) _ (HBX.out.range_at (by rfl)) Try.underlying45 rfl (by kernel_rfl) ?_) | (go_at_call 28; refine (rrun8_any (p := run) (bt := false) HP1.out.run HPN.out (by omega)).mono ?_; rintro e w2 ⟨A2, m2, d2, rfl, ho2, hb2⟩; have HO2 := Lib.hid ho2; have HB2 := Lib.hid hb2; replace k2 := kcell hb2 k2; clear ho2 hb2) | (go_at_call 26; refine (rlong_any tx _ (by omega)).mono ?_; rintro e w3 ⟨A3, m3, d3, rfl, ho3, hb3⟩; have HO3 := Lib.hid ho3; have HB3 := Lib.hid (HB2.out.trans (hb3.mono HB2.out.size)); have HOk := Lib.hid (HO2.out.after hb3); clear ho3 hb3) | (go_at_call 29; refine (rjoin8_any (s := .ok (long tx)) (r := runQ false run) HO3.out.sl HOk.out.sl (Nw.ok _) (nwRun _ _) (by show (long tx).length + _ ≤ _; omega)).mono ?_; rintro e w4 ⟨A4, m4, d4, rfl, ho4, hb4⟩; have HO4 := Lib.hid (ho4.mono (by have := HB3.out.size; omega : w1.heap.size ≤ _)); have HB4 := Lib.hid (HB3.out.trans (hb4.mono HB3.out.size)); clear ho4 hb4))
      go_ret2
      obtain rfl : r = bothW (.ok (long tx)) (runQ false run) := HR.out.symm
      exact ⟨_, _, _, rfl, (HO4.out.sl.mono (S' := fun b => w.heap.size ≤ b) fun b hb _ => Nat.le_trans HB1.out.size hb), HB1.out.trans (HB4.out.mono HB1.out.size)⟩
    · have k2 := HBX.out.c 2 _ rfl
      go_wp2_with (first | (go_at_call 26; refine (rlong_any tx _ (by omega)).mono ?_; rintro e w3 ⟨A3, m3, d3, rfl, ho3, hb3⟩; have HO3 := Lib.hid ho3; have HB3 := Lib.hid hb3; clear ho3 hb3))
      go_ret2
      obtain rfl : r = .ok (long tx) := HR.out.symm
      exact ⟨_, _, _, rfl, (HO3.out.sl.mono (S' := fun b => w.heap.size ≤ b) fun b hb _ => Nat.le_trans HB1.out.size hb), HB1.out.trans (HB3.out.mono HB1.out.size)⟩
    · have k3 := HBX.out.c 3 _ rfl
      have hlR := run_le false run
      have hlt := text_le idn
      obtain ⟨st, hst⟩ : ∃ st, st = text idn := ⟨_, rfl⟩
      have HNST : Hid (Nw st) := Lib.hid (by rw [hst]; exact nwText _)
      have HST := Lib.hid hst; clear hst
      go_upto_if 74 with (first | (go_at_call 30; refine (rsh8_any idn _ (by omega)).mono ?_; rintro e w2 ⟨A2, m2, d2, rfl, ho2, hb2⟩; rw [← HST.out] at ho2 ⊢; have HO2 := Lib.hid ho2; have HB2 := Lib.hid hb2; clear ho2 hb2))
      rw [← HST.out] at hlt
      clear k3
      have HBX2 := Lib.hid (goesBx.after HBX.out HB2.out)
      have HP2 := Lib.hid (goesRf.after HP1.out HB2.out)
      cases st with
      | error e =>
        have hne : (e != 0) = true := by simpa using HNST.out e rfl
        rw [werr_er]
        go_wp2_with fail
        go_ret2
        obtain rfl : r = .error e := by rw [← HR.out]; show bothW (text idn) _ = _; rw [← HST.out]; rfl
        exact ⟨none, 0, 0, rfl, Sl.nil, HB1.out.trans (HB2.out.mono HB1.out.size)⟩
      | ok tb =>
        rw [werr_ok]
        have hltb : tb.length ≤ 65537 := hlt
        have HOw : Hid (Own w1.heap.size w2 A2 m2 d2 (wval (.ok tb))) := HO2
        go_wp2_with (first | (refine wpList_load_mid (by rfl) 45 _ (by rfl) w.heap.size 4 (by rfl) (runV run r1.a r1.n r1.c r2.a r2.n r2.c) _ (HBX2.out.range_at (by rfl)) Try.underlying45 rfl (by kernel_rfl) ?_) | (go_at_call 28; refine (rrun8_any (p := run) (bt := false) HP2.out.run HPN.out (by omega)).mono ?_; rintro e w3 ⟨A3, m3, d3, rfl, ho3, hb3⟩; have HO3 := Lib.hid ho3; have HB3 := Lib.hid (HB2.out.trans (hb3.mono HB2.out.size)); have HOk := Lib.hid (HOw.out.after hb3); clear ho3 hb3) | (go_at_call 29; refine (rjoin8_any (s := .ok tb) (r := runQ false run) HOk.out.sl HO3.out.sl (Nw.ok _) (nwRun _ _) (by show tb.length + _ ≤ _; omega)).mono ?_; rintro e w4 ⟨A4, m4, d4, rfl, ho4, hb4⟩; have HO4 := Lib.hid (ho4.mono (by have := HB3.out.size; omega : w1.heap.size ≤ _)); have HB4 := Lib.hid (HB3.out.trans (hb4.mono HB3.out.size)); clear ho4 hb4))
        go_ret2
        obtain rfl : r = bothW (.ok tb) (runQ false run) := by rw [← HR.out]; show bothW (text idn) _ = _; rw [← HST.out]
        exact ⟨_, _, _, rfl, (HO4.out.sl.mono (S' := fun b => w.heap.size ≤ b) fun b hb _ => Nat.le_trans HB1.out.size hb), HB1.out.trans (HB4.out.mono HB1.out.size)⟩
    · have k17 := HBX.out.c 17 _ rfl
      have HE : Hid (r = putL (itemW 0) (evs.map .ofText)) := Lib.hid (by rw [← HR.out, put_texts]; rfl)
      go_wp2_with (first | (go_at_call 25; refine (rput0_any (M := 65537) HP1.out.events (fun x hx b h => ?_) (by decide) (fun h => by have := Nat.mul_le_mul_right 65537 h; omega) r HE.out.symm).mono ?_; rotate_left; rintro e w2 ⟨A2, m2, d2, rfl, ho2, hb2⟩; have HO2 := Lib.hid ho2; have HB2 := Lib.hid hb2; clear ho2 hb2))
      · go_ret2
        exact ⟨_, _, _, rfl, (HO2.out.sl.mono (S' := fun b => w.heap.size ≤ b) fun b hb _ => Nat.le_trans HB1.out.size hb), HB1.out.trans (HB2.out.mono HB1.out.size)⟩
      · obtain ⟨p, _, rfl⟩ := List.mem_map.1 hx
        exact (text_len (s := p) (by simpa [itemW, itemV, Thing.ofText, bothW_nil] using h)).1
    · have k18 := HBX.out.c 18 _ rfl
      have k19 := HBX.out.c 19 _ rfl
      go_wp2_with (first | (go_at_call 27; refine (rvalue_any tok _ (by omega) (value tok) rfl).mono ?_; rintro e w2 ⟨A2, m2, d2, rfl, ho2, hb2⟩; have HO2 := Lib.hid ho2; have HB2 := Lib.hid hb2; clear ho2 hb2))
      go_ret2
      obtain rfl : r = value tok := HR.out.symm
      exact ⟨_, _, _, rfl, (HO2.out.sl.mono (S' := fun b => w.heap.size ≤ b) fun b hb _ => Nat.le_trans HB1.out.size hb), HB1.out.trans (HB2.out.mono HB1.out.size)⟩
    · have k20 := HBX.out.c 20 _ rfl
      have k21 := HBX.out.c 21 _ rfl
      obtain ⟨aA, an, ac⟩ := al
      dsimp only at k21
      have hnl := HP.out.all.len
      dsimp only at hnl
      have HNL := Lib.hid hnl; clear hnl
      have hwlt := HBX.out.lt
      have hac := HP.out.all.cap
      have hacm := HP.out.all.capMax
      dsimp only at hac hacm
      by_cases hk2 : 2 < kd
      · have HE : Hid (r = .error 1) := Lib.hid (by
          rw [← HR.out]
          show bothW (mustQ (decide (kd ≤ 2))) _ = _
          rw [decide_eq_false (by omega)]; rfl)
        go_wp2_with fail
        go_ret2
        rw [HE.out]
        exact ⟨none, 0, 0, rfl, Sl.nil, HB1.out⟩
      · obtain ⟨kb, hkb⟩ : ∃ x : UInt8, x.toNat = kd := ⟨UInt8.ofNat kd, by simp; omega⟩
        have HKE : Hid (enc 1 kd = [kb]) := Lib.hid (by rw [enc1, ← hkb]; simp)
        have hbv : (#[Value.int .u8 (kd : Int)] : Array Value).toList = bv [kb] := by rw [← hkb]; rfl
        have HBV := Lib.hid hbv; clear hbv hkb
        have HRB : Hid (r = bothW (bothW (bothW (.ok [kb]) (cntQ an)) (putsM stmQ all)) (runQ true run)) := Lib.hid (by
          rw [← HR.out]
          show bothW (mustQ (decide (kd ≤ 2))) (bothW (.ok (enc 1 kd)) (bothW (cntQ all.length) (bothW (putsM stmQ all) (runQ true run)))) = _
          rw [decide_eq_true (by omega), show mustQ true = .ok [] from rfl, bothW_left, HKE.out, ← HNL.out, bothW_assoc, bothW_assoc])
        go_upto_region 28 with (first | (go_at_call 31; refine (rcount8_any (n := an) (by omega)).mono ?_; rintro e w2 ⟨A2, m2, d2, rfl, ho2, hb2⟩; have HO2 := Lib.hid ho2.sl; have HOl := Lib.hid ((own_lit w1 #[.int .u8 (kd : Int)] 1 [kb] HBV.out rfl (by decide) (Nat.le_refl w1.heap.size) rfl).after hb2); have HB2 := Lib.hid (((Below.refl w1.heap.size w1).alloc (Nat.le_refl _) (.cells #[.int .u8 (kd : Int)] 5)).trans (hb2.mono (by simp))); clear ho2 hb2) | (go_at_call 29; refine (rjoin8_any (s := .ok [kb]) (r := cntQ an) HOl.out.sl HO2.out (Nw.ok _) (nwCnt _) (by have := cnt_len an; show 1 + _ ≤ _; omega)).mono ?_; rintro e w3 ⟨A3, m3, d3, rfl, ho3, hb3⟩; have HO3 := Lib.hid (ho3.mono (by have := HB2.out.size; omega : w1.heap.size ≤ _)); have HB3 := Lib.hid (HB2.out.trans (hb3.mono HB2.out.size)); clear ho3 hb3))
        obtain ⟨s0, hs0⟩ : ∃ s, s = bothW (.ok [kb]) (cntQ an) := ⟨_, rfl⟩
        rw [← hs0] at HO3 HRB ⊢
        have hl0 : lenW s0 ≤ 3 := by rw [hs0]; have := lenW_both (.ok [kb]) (cntQ an); have := cnt_len an; have : lenW (.ok [kb]) = 1 := rfl; omega
        have HN0 : Hid (Nw s0) := Lib.hid (by rw [hs0]; exact (Nw.ok _).both (nwCnt _))
        clear hs0
        have hlr : costR run ≤ 140737488000000 := by omega
        have hlR := run_le true run
        go_wp2_with fail
        go_loopw [10, 12, 13] (fun b e i wr => ∃ k A m c s, k ≤ an ∧ b = .slice A m c ∧ e = .int .i64 (werr s) ∧ i = .int .i64 (k : Nat) ∧ Hid (s = bothW s0 (putsM stmQ (all.take k))) ∧ Hid (Own w1.heap.size wr A m c (wval s)) ∧ Hid (Below w1.heap.size w1 wr)) (fun _ _ i _ => an - (intOf i).toNat)
        case atStart => exact ⟨0, A3, m3, d3, s0, by omega, rfl, rfl, rfl, Lib.hid (bothQ_nil s0).symm, HO3, HB3⟩
        case round =>
          obtain ⟨k, A, m, c, s, hk, rfl, rfl, rfl, HS, HO, HBr⟩ := hrel
          have hNw : Nw s := by rw [HS.out]; exact HN0.out.both (nwMs nwStm _)
          have hls : lenW s ≤ 3 + costA all := by
            rw [HS.out]
            have h1 := lenW_both s0 (putsM stmQ (all.take k))
            have h3 := putsA_le (all.take k)
            have h4 := costA_take all k
            omega
          have hzr := HBr.out.size
          have j21 := kcell HBr.out k21
          by_cases hlt : k < an
          · cases s with
            | error e =>
              have hne : (e == 0) = false := by simpa using hNw e rfl
              have hne2 : (e != 0) = true := by simpa using hNw e rfl
              have HF : Hid (r = .error e) := Lib.hid (by rw [HRB.out, putsM_part stmQ all k s0 HS.out.symm]; rfl)
              rw [werr_er]
              clear hls
              go_wp2_with fail
              go_ret2
              rw [HF.out]
              exact ⟨none, 0, 0, rfl, Sl.nil, HB1.out.trans (HBr.out.mono HB1.out.size)⟩
            | ok sb =>
              rw [werr_ok]
              replace HO : Hid (Own w1.heap.size wr A m c sb) := HO
              have hlsb : sb.length ≤ 3 + costA all := hls
              obtain ⟨x, hx⟩ : ∃ x, all[k]? = some x := ⟨_, List.getElem?_eq_getElem (by have := HNL.out; omega)⟩
              have hcx := costA_mem (List.mem_of_getElem? hx)
              have HSN : Hid (bothW s0 (putsM stmQ (all.take (k + 1))) = bothW (.ok sb) (stmQ x)) := Lib.hid (by rw [putsM_snoc stmQ hx, ← bothW_assoc, ← HS.out])
              obtain ⟨b2, o2, rfl, hS2, hz2, HC2⟩ := HP1.out.all.at (by decide) (by dsimp only; omega)
              obtain ⟨v2, _, hp2, hv2⟩ := HC2 k x hx
              obtain ⟨Av, nv, cv, rfl, hxt, hxi, hav⟩ := hp2
              have HAV := Lib.hid hav; clear hav
              have q0 := hv2 0 _ rfl
              have q1 := hv2 1 _ rfl
              have q2 := hv2 2 _ rfl
              have q3 := hv2 3 _ rfl
              simp only [Nat.add_zero] at q0
              have e0 := kcell HBr.out q0
              have e1 := kcell HBr.out q1
              have e2 := kcell HBr.out q2
              clear q0
              clear hv2 HC2 hS2 hz2 hx hls
              unfold costT at hcx
              have hvl := vals_le [] x.values
              have htl := text_le x.ident
              have hlw := long_w x.text
              obtain ⟨pp, hpp⟩ : ∃ pp, pp = x.prepared := ⟨_, rfl⟩
              rw [← hpp] at e0
              have HPP := Lib.hid hpp; clear hpp
              have HST : Hid (stmQ x = bothW (.ok (enc 1 (if x.prepared then 1 else 0))) (bothW (if x.prepared then text x.ident else .ok (long x.text)) (valsQ [] x.values))) := Lib.hid rfl
              rw [← HPP.out] at HST
              clear HPP
              cases pp with
              | true =>
                go_upto_region 37 with (first | (at_builtin; refine wpList_appw rfl _ _ rfl w1.heap.size _ _ _ sb rfl (HO.out.after ((Below.refl _ _).alloc (Nat.le_refl _) _)) _ _ _ _ [1] rfl (sl_lit _ _ 1 [1] (by rfl) rfl (by decide) (by first | rfl | simp)) (by simp only [List.length_cons, List.length_nil]; omega) (by simp; omega) ?_; intro A5 m5 d5 w5 hown5 hg5 hw5; have HO5 := Lib.hid hown5; have HB5 := Lib.hid (HBr.out.trans (below_grow (((Below.refl wr.heap.size wr).mono hzr).alloc hzr _) hg5 (by simp; omega) fun b e => (HO.out.block b e).1)); have i1 := kcell HB5.out q1; have i2 := kcell HB5.out q2; have i21 := kcell HB5.out k21; clear hown5 hg5 hw5) | (go_at_call 30; refine (rsh8_any x.ident _ (by omega)).mono ?_; rintro e w6 ⟨A6, m6, d6, rfl, ho6, hb6⟩; have HO6 := Lib.hid ho6.sl; have HB6 := Lib.hid (HB5.out.trans (hb6.mono HB5.out.size)); have HOq := Lib.hid (HO5.out.after hb6); clear ho6 hb6) | (go_at_call 29; refine (rjoin8_any (s := .ok (sb ++ [1])) (r := text x.ident) HOq.out.sl HO6.out (Nw.ok _) (nwText _) (by show (sb ++ [1]).length + _ ≤ _; rw [List.length_append]; simp only [List.length_cons, List.length_nil]; omega)).mono ?_; rintro e w7 ⟨A7, m7, d7, rfl, ho7, hb7⟩; have HO7 := Lib.hid (ho7.mono (by have := HB6.out.size; omega : w1.heap.size ≤ _)); have HB7 := Lib.hid (HB6.out.trans (hb7.mono HB6.out.size)); clear ho7 hb7))
                obtain ⟨s7, hs7⟩ : ∃ s7, s7 = bothW (.ok (sb ++ [1])) (text x.ident) := ⟨_, rfl⟩
                rw [← hs7] at HO7 ⊢
                have hl7 : lenW s7 ≤ sb.length + 1 + 65537 := by rw [hs7]; have := lenW_both (.ok (sb ++ [1])) (text x.ident); have h2 : lenW (.ok (sb ++ [1])) = sb.length + 1 := by show (sb ++ [1]).length = _; rw [List.length_append]; rfl
                                                                 omega
                have HN7 : Hid (Nw s7) := Lib.hid (by rw [hs7]; exact (Nw.ok _).both (nwText _))
                have HS7 : Hid (bothW (.ok sb) (stmQ x) = bothW s7 (valsQ [] x.values)) := Lib.hid (by rw [HST.out, hs7]; simp only [if_true]; rw [← bothW_assoc, ← bothW_assoc]; rfl)
                clear hs7
                have i21 := kcell HB7.out k21
                have g3 := kcell HB7.out q3
                have HAV7 := Lib.hid (goesArr.after HAV.out HB7.out)
                clear e0 e1 e2 j21 q1 q2 q3
                go_wp2_with (first | (go_at_call 32; refine (rvals8_any (S2 := fun _ => True) (names := []) (l := x.values) HAV7.out Arr.nil (.inl rfl) (by omega)).mono ?_; rintro e w8 ⟨A8, m8, d8, rfl, ho8, hb8⟩; have HO8 := Lib.hid ho8.sl; have HB8 := Lib.hid (HB7.out.trans (hb8.mono HB7.out.size)); have HO7k := Lib.hid (HO7.out.after hb8); clear ho8 hb8) | (go_at_call 29; refine (rjoin8_any (s := s7) (r := valsQ [] x.values) HO7k.out.sl HO8.out HN7.out (nwVals _ _) (by omega)).mono ?_; rintro e w9 ⟨A9, m9, d9, rfl, ho9, hb9⟩; have HO9 := Lib.hid (ho9.mono (by have := HB8.out.size; omega : w1.heap.size ≤ _)); have HB9 := Lib.hid (HB8.out.trans (hb9.mono HB8.out.size)); clear ho9 hb9))
                refine ⟨⟨k + 1, A9, m9, d9, bothW s7 (valsQ [] x.values), by omega, rfl, by first | rfl | (rw [show sb ++ [0] ++ long x.text = sb ++ 0 :: long x.text by simp]), by go_num, Lib.hid (by rw [HSN.out, HS7.out]), HO9, HB9⟩, by simp [intOf]; omega⟩
              | false =>
                go_upto_region 37 with (first | (at_builtin; refine wpList_appw rfl _ _ rfl w1.heap.size _ _ _ sb rfl (HO.out.after ((Below.refl _ _).alloc (Nat.le_refl _) _)) _ _ _ _ [0] rfl (sl_lit _ _ 1 [0] (by rfl) rfl (by decide) (by first | rfl | simp)) (by simp only [List.length_cons, List.length_nil]; omega) (by simp; omega) ?_; intro A5 m5 d5 w5 hown5 hg5 hw5; have HO5 := Lib.hid hown5; have HB5 := Lib.hid (HBr.out.trans (below_grow (((Below.refl wr.heap.size wr).mono hzr).alloc hzr _) hg5 (by simp; omega) fun b e => (HO.out.block b e).1)); have i1 := kcell HB5.out q1; have i2 := kcell HB5.out q2; have i21 := kcell HB5.out k21; clear hown5 hg5 hw5) | (go_at_call 26; refine (rlong_any x.text _ (by omega)).mono ?_; rintro e w6 ⟨A6, m6, d6, rfl, ho6, hb6⟩; have HO6 := Lib.hid ho6.sl; have HB6 := Lib.hid (HB5.out.trans (hb6.mono HB5.out.size)); have HOq := Lib.hid (HO5.out.after hb6); have hz6 := HB6.out.size; clear ho6 hb6) | (at_builtin; refine wpList_appw rfl _ _ rfl w1.heap.size _ _ _ (sb ++ [0]) rfl HOq.out _ _ _ _ (long x.text) rfl HO6.out (by rw [List.length_append]; simp only [List.length_cons, List.length_nil]; omega) hz6 ?_; intro A7 m7 d7 w7 hown7 hg7 hw7; have HO7 := Lib.hid hown7; have HB7 := Lib.hid (HB6.out.trans (below_grow ((Below.refl w6.heap.size w6).mono hz6) hg7 hz6 fun b e => (HOq.out.block b e).1)); clear hown7 hg7 hw7))
                replace HO7 : Hid (Own w1.heap.size w7 A7 m7 d7 (wval (.ok (sb ++ [0] ++ long x.text)))) := HO7
                have hl7 : lenW (.ok (sb ++ [0] ++ long x.text)) ≤ sb.length + 1 + 4 + x.text.length := by show (sb ++ [0] ++ long x.text).length ≤ _; rw [List.length_append, List.length_append]; simp only [List.length_cons, List.length_nil]; omega
                have HN7 : Hid (Nw (.ok (sb ++ [0] ++ long x.text))) := Lib.hid (Nw.ok _)
                have HS7 : Hid (bothW (.ok sb) (stmQ x) = bothW (.ok (sb ++ [0] ++ long x.text)) (valsQ [] x.values)) := Lib.hid (by rw [HST.out, if_neg (by decide), if_neg (by decide), ← bothW_assoc, ← bothW_assoc]; rfl)
                have i21 := kcell HB7.out k21
                have g3 := kcell HB7.out q3
                have HAV7 := Lib.hid (goesArr.after HAV.out HB7.out)
                clear e0 e1 e2 j21 q1 q2 q3
                go_wp2_with (first | (go_at_call 32; refine (rvals8_any (S2 := fun _ => True) (names := []) (l := x.values) HAV7.out Arr.nil (.inl rfl) (by omega)).mono ?_; rintro e w8 ⟨A8, m8, d8, rfl, ho8, hb8⟩; have HO8 := Lib.hid ho8.sl; have HB8 := Lib.hid (HB7.out.trans (hb8.mono HB7.out.size)); have HO7k := Lib.hid (HO7.out.after hb8); clear ho8 hb8) | (go_at_call 29; refine (rjoin8_any (s := (.ok (sb ++ [0] ++ long x.text))) (r := valsQ [] x.values) HO7k.out.sl HO8.out HN7.out (nwVals _ _) (by omega)).mono ?_; rintro e w9 ⟨A9, m9, d9, rfl, ho9, hb9⟩; have HO9 := Lib.hid (ho9.mono (by have := HB8.out.size; omega : w1.heap.size ≤ _)); have HB9 := Lib.hid (HB8.out.trans (hb9.mono HB8.out.size)); clear ho9 hb9))
                refine ⟨⟨k + 1, A9, m9, d9, bothW (.ok (sb ++ [0] ++ long x.text)) (valsQ [] x.values), by omega, rfl, by first | rfl | (rw [show sb ++ [0] ++ long x.text = sb ++ 0 :: long x.text by simp]), by go_num, Lib.hid (by rw [HSN.out, HS7.out]), HO9, HB9⟩, by simp [intOf]; omega⟩
          · obtain rfl : an = k := by omega
            have hfull : all.take an = all := List.take_of_length_le (by have := HNL.out; omega)
            rw [hfull] at HS
            have HRF : Hid (r = bothW s (runQ true run)) := Lib.hid (by rw [HRB.out, ← HS.out])
            clear hfull HS
            have HNs := Lib.hid hNw; clear hNw
            cases s with
            | error e =>
              have hne2 : (e != 0) = true := by simpa using HNs.out e rfl
              have HF : Hid (r = .error e) := HRF
              rw [werr_er]
              clear hls
              go_wp2_with fail
              go_ret2
              rw [HF.out]
              exact ⟨none, 0, 0, rfl, Sl.nil, HB1.out.trans (HBr.out.mono HB1.out.size)⟩
            | ok sb =>
              rw [werr_ok]
              replace HO : Hid (Own w1.heap.size wr A m c sb) := HO
              have hlsb : sb.length ≤ 3 + costA all := hls
              have HBXr := Lib.hid (goesBx.after HBX.out HBr.out)
              have HPr := Lib.hid (goesRf.after HP1.out HBr.out)
              go_wp2_with (first | (refine wpList_load_mid (by rfl) 45 _ (by rfl) w.heap.size 4 (by rfl) (runV run r1.a r1.n r1.c r2.a r2.n r2.c) _ (HBXr.out.range_at (by rfl)) Try.underlying45 rfl (by kernel_rfl) ?_) | (go_at_call 28; refine (rrun8_any (p := run) (bt := true) HPr.out.run HPN.out (by omega)).mono ?_; rintro e w5 ⟨A5, m5, d5, rfl, ho5, hb5⟩; have HO5 := Lib.hid ho5; have HB5 := Lib.hid (HBr.out.trans (hb5.mono HBr.out.size)); have HOk := Lib.hid (HO.out.after hb5); clear ho5 hb5) | (go_at_call 29; refine (rjoin8_any (s := .ok sb) (r := runQ true run) HOk.out.sl HO5.out.sl (Nw.ok _) (nwRun _ _) (by show sb.length + _ ≤ _; omega)).mono ?_; rintro e w6 ⟨A6, m6, d6, rfl, ho6, hb6⟩; have HO6 := Lib.hid (ho6.mono (by have := HB5.out.size; omega : w1.heap.size ≤ _)); have HB6 := Lib.hid (HB5.out.trans (hb6.mono HB5.out.size)); clear ho6 hb6))
              go_ret2
              rw [HRF.out]
              exact ⟨_, _, _, rfl, (HO6.out.sl.mono (S' := fun b => w.heap.size ≤ b) fun b hb _ => Nat.le_trans HB1.out.size hb), HB1.out.trans (HB6.out.mono HB1.out.size)⟩
  · have e22 : putRq ⟨op, opts, tx, idn, run, evs, tok, kd, all⟩ = .error 22 := put_not hk
    have hk1 : ((op : Int) == 1) = false := by unfold knownOp at hk; simp; omega
    have hk5 : ((op : Int) == 5) = false := by unfold knownOp at hk; simp; omega
    have hk9 : ((op : Int) == 9) = false := by unfold knownOp at hk; simp; omega
    have hk11 : ((op : Int) == 11) = false := by unfold knownOp at hk; simp; omega
    have hk15 : ((op : Int) == 15) = false := by unfold knownOp at hk; simp; omega
    have hk7 : ((op : Int) == 7) = false := by unfold knownOp at hk; simp; omega
    have hk10 : ((op : Int) == 10) = false := by unfold knownOp at hk; simp; omega
    have hk13 : ((op : Int) == 13) = false := by unfold knownOp at hk; simp; omega
    have HE := Lib.hid e22; clear e22 hk
    go_wp2_with fail
    go_ret2
    obtain rfl := HE.out.symm.trans HR.out
    exact ⟨none, 0, 0, rfl, Sl.nil, HB1.out⟩
end Go.Proofs.Sb
