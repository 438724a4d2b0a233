/- The walk over signalboxlaw03.MapsBack: true at every input, and nothing that was there has turned. Conditions: none. -/
import Derived.Test.YtfgdohdbabhplaaAwake3
import Derived.Test.YtfgdohdbabhplaaSame
import Derived.Test.YtfgdohdbabhplaaLaws3
import Derived.Test.YtfgdohdbabhplaaPlaine
set_option linter.unusedVariables false
set_option linter.unusedSimpArgs false
namespace Go.Proofs.Sb
open Go.RowKit _root_.Sb

set_option maxHeartbeats 8000000 in
set_option maxRecDepth 100000 in
theorem mapsBack_any {S S2 S3 S' : Nat → Prop} {A Ap A2 : Option Addr} {n c np cp m c2 : Nat} {l : List (B × List B)} {p : List (B × B)} {bs : B} {w : World} (hl : Arr 2 (multiP S2 w) S w A n c l) (hp : Arr 2 pairP S3 w Ap np cp p) (hs : Sl S' w A2 m c2 bs) :
    Calls Try.prog 10 #[.slice A n c, .slice Ap np cp, .slice A2 m c2] w fun e w' => e = .returned (.bool true) ∧ Below w.heap.size w w' := by
  have hcap := hl.cap
  have hcm := hl.capMax
  have hpcap := hp.cap
  have hpcm := hp.capMax
  have hscap := hs.cap
  have hscm := hs.capMax
  have hlen := Lib.hid hl.len
  have hplen := Lib.hid hp.len
  have hslen := Lib.hid hs.len
  have HL := Lib.hid hl.lt; clear hl
  have HP := Lib.hid hp.lt; clear hp
  have HS := Lib.hid hs.lt; clear hs
  by_cases hbig : 50 < n
  · go_enter Try.func10, Try.ntmps10
    go_wp2_with fail
    refine (awake3 _).mono ?_
    rintro e w1 ⟨rfl, hb1⟩
    go_wp2_with fail
    go_ret
    exact ⟨rfl, hb1⟩
  · by_cases hbig2 : 50 < np
    · go_enter Try.func10, Try.ntmps10
      go_wp2_with fail
      refine (awake3 _).mono ?_
      rintro e w1 ⟨rfl, hb1⟩
      go_wp2_with fail
      go_ret
      exact ⟨rfl, hb1⟩
    · by_cases hbig3 : 3000 < m
      · go_enter Try.func10, Try.ntmps10
        go_wp2_with fail
        refine (awake3 _).mono ?_
        rintro e w1 ⟨rfl, hb1⟩
        go_wp2_with fail
        go_ret
        exact ⟨rfl, hb1⟩
      · go_enter Try.func10, Try.ntmps10
        go_wp2_with fail
        refine (awake3 _).mono ?_
        rintro e w1 ⟨rfl, hb1⟩
        have hz1 := hb1.size
        go_wp2_with fail
        go_loopw [8] (fun i wr => ∃ k : Nat, k ≤ n ∧ i = .int .i64 (k : Nat) ∧ Hid (∀ j x, j < k → l[j]? = some x → x.2.length ≤ 50) ∧ w1 = wr) (fun i _ => n - (intOf i).toNat)
        case atStart => exact ⟨0, by omega, rfl, fun j x h => absurd h (Nat.not_lt_zero _), rfl⟩
        case round =>
          obtain ⟨k, hk, rfl, HK, rfl⟩ := hrel
          by_cases hlt : k < n
          · obtain ⟨x, hx⟩ : ∃ x, l[k]? = some x := ⟨_, List.getElem?_eq_getElem (by have := hlen.out; omega)⟩
            have HX := Lib.hid hx; clear hx
            have HL1 := Lib.hid (multis_move HL.out hb1)
            obtain ⟨b, o, rfl, _, hbs, HC⟩ := HL1.out.at (by decide) (by omega)
            obtain ⟨v, hv1, ⟨A9, n9, c9, rfl, hx1, hx2⟩, hv2⟩ := HC k x HX.out
            have hc1 := hv2 1 _ rfl
            have hx9 := Lib.hid hx2.len
            have hx9c := hx2.cap
            have hx9m := hx2.capMax
            clear hv1 hv2 HC hx1 hx2
            by_cases h50 : 50 < n9
            · go_wp2_with fail
              go_ret
              exact ⟨rfl, hb1⟩
            · go_wp2_with fail
              refine ⟨⟨k + 1, by omega, by go_num, fun j y hj hy => ?_, by first | trivial | rfl⟩, by simp [intOf]; omega⟩
              by_cases hjk : j < k
              · exact HK j y hjk hy
              · obtain rfl : j = k := by omega
                have h := HX.out
                rw [hy] at h
                injection h with h
                subst h
                have := hx9.out
                omega
          · obtain rfl : n = k := by omega
            have HV : Hid (∀ x ∈ l, x.2.length ≤ 50) := fun x hx => by
              obtain ⟨j, hj⟩ := List.getElem?_of_mem hx
              exact HK j x (by have := (List.getElem?_eq_some_iff.1 hj).1; have := hlen.out; omega) hj
            clear HK
            obtain ⟨rt, hrt⟩ : ∃ r, putL multiW l = r := ⟨_, rfl⟩
            have HT := Lib.hid hrt; clear hrt
            obtain ⟨rp, hrp⟩ : ∃ r, putL pairW p = r := ⟨_, rfl⟩
            have HQ := Lib.hid hrp; clear hrp
            go_wp2_with fail
            refine (multis_any (M := 3342389) (multis_move HL.out hb1) (fun x hx b hb => by have := (multiW_len hb).1; have := HV.out x hx; omega) (by intro; have := hlen.out; omega) rt HT.out).mono ?_
            rintro e w2 ⟨A3, m3, c3, rfl, ho3, hb2⟩
            have hbel2 : Below w.heap.size w w2 := Below.trans hb1 (hb2.mono hz1)
            have hz2 := hbel2.size
            go_wp2_with fail
            refine (pairs_any (M := 131074) (HP.out.after hbel2) (fun x _ b hb => pairW_len hb) (by intro; have := hplen.out; omega) rp HQ.out).mono ?_
            rintro e w3 ⟨A5, m5, c5, rfl, ho5, hb3⟩
            have hbel3 : Below w.heap.size w w3 := Below.trans hbel2 (hb3.mono hz2)
            have hz3 := hbel3.size
            have ho3' := (ho3.after hb3).mono hz1
            have hz23 := hb3.size
            cases rt with
            | error et =>
              have hne : et ≠ 0 := putL_ne (fun _ _ h => multiW_ne h) HT.out
              have hne1 : (et == 0) = false := by simpa using hne
              have hne2 : (et != 0) = true := by simpa using hne
              obtain rfl : m3 = 0 := ho3.len
              go_wp2_with fail
              go_ret
              exact ⟨rfl, hbel3⟩
            | ok xb =>
              cases rp with
              | error ep =>
                have hne : ep ≠ 0 := putL_ne (fun _ _ h => pairW_ne h) HQ.out
                have hne1 : (ep == 0) = false := by simpa using hne
                have hne2 : (ep != 0) = true := by simpa using hne
                obtain rfl : m5 = 0 := ho5.len
                go_wp2_with fail
                go_ret
                exact ⟨rfl, hbel3⟩
              | ok yb =>
                simp only [werr_ok, wval_ok] at ho3 ho3' ho5 ⊢
                have hxl : xb.length ≤ 167119452 := by
                  have := (putL_len (M := 3342389) (fun x hx b hb => by have := (multiW_len hb).1; have := HV.out x hx; omega) HT.out).2
                  have h2 := hlen.out
                  have : l.length * 3342389 ≤ 50 * 3342389 := Nat.mul_le_mul_right _ (by omega)
                  omega
                have hyl : yb.length ≤ 6553702 := by
                  have := (putL_len (M := 131074) (fun x _ b hb => pairW_len hb) HQ.out).2
                  have h2 := hplen.out
                  have : p.length * 131074 ≤ 50 * 131074 := Nat.mul_le_mul_right _ (by omega)
                  omega
                have hml : bs.length ≤ 3000 := by have := hslen.out; omega
                have HGM := Lib.hid (multis_back' (r := bs) HT.out)
                have HGP := Lib.hid (pairs_back' (r := bs) HQ.out)
                have hblk3 := ho3.block
                have hblk5 := ho5.block
                have HB3 := Lib.hid hblk3; clear hblk3
                have HB5 := Lib.hid hblk5; clear hblk5
                go_wp2_with (at_builtin; refine wpList_appw rfl _ _ rfl w.heap.size _ _ _ xb rfl ho3' (fun b => S' b ∧ b < w.heap.size) _ _ _ bs rfl (HS.out.after hbel3) (by omega) hz3 ?_; intro A6 m6 c6 w4 hown6 hg6 hwh6)
                have hbel4 : Below w.heap.size w w4 := Below.grown hbel3 hg6 hz3 fun b e => by have := (HB3.out b e).1; omega
                have hz4 := hbel4.size
                have hm6 := hown6.len
                rw [List.length_append] at hm6
                refine (getMultis_any hown6.slb (by omega) _ HGM.out).mono ?_
                rintro e w5 ⟨A7, m7, c7, A8, m8, c8, rfl, ho7, hs8, hb5⟩
                have hbel5 : Below w.heap.size w w5 := Below.trans hbel4 (hb5.mono hz4)
                have hz5 := hbel5.size
                have hz34 := hg6.size
                have ho5' : Own w.heap.size w5 A5 m5 c5 yb := ((ho5.grown hg6 fun b e e2 => by have h1 := (HB3.out b e2.symm).2; have h2 := (HB5.out b e).1; omega).after hb5).mono hz2
                simp only [rerr_ok, rval_ok, rrest_ok] at ho7 hs8 ⊢
                clear hm6
                go_wp2_with (at_builtin; refine wpList_appw rfl _ _ rfl w.heap.size _ _ _ yb rfl ho5' (fun b => S' b ∧ b < w.heap.size) _ _ _ bs rfl (HS.out.after hbel5) (by omega) hz5 ?_; intro A10 m10 c10 w6 hown10 hg10 hwh10)
                have hbel6 : Below w.heap.size w w6 := Below.grown hbel5 hg10 hz5 fun b e => by have := (HB5.out b e).1; omega
                have hz6 := hbel6.size
                have hm10 := hown10.len
                rw [List.length_append] at hm10
                refine (getPairs_any hown10.sl (by omega) _ HGP.out).mono ?_
                rintro e w7 ⟨A11, m11, c11, A12, m12, c12, rfl, ho11, hs12, hb7⟩
                have hbel7 : Below w.heap.size w w7 := Below.trans hbel6 (hb7.mono hz6)
                have hz7 := hbel7.size
                simp only [rerr_ok, rval_ok, rrest_ok] at ho11 hs12 ⊢
                clear hm10
                have hs8' := (hs8.grown hg10 fun b hb e => by rcases hwh6 b hb.2 with e2 | e2; (have h1 := (HB3.out b e2).2; have h2 := (HB5.out b e.symm).1; omega); (have := (HB5.out b e.symm).2; omega)).after hb7
                have ho7' : Arr 2 (multiP (fun b => w4.heap.size ≤ b) w7) (fun b => w4.heap.size ≤ b) w7 A7 m7 c7 l :=
                  ((ho7.grown hg10 fun b hb e => by have := (HB5.out b e.symm).2; omega).after hb7).imp fun _ _ _ h => h.imp fun _ _ _ _ h => (h.grown hg10 fun b hb e => by have := (HB5.out b e.symm).2; omega).after hb7
                have hcv8 := conv_sl hs8'
                have hcv12 := conv_sl hs12
                have hcvs := conv_sl (HS.out.after hbel7)
                have HLV := Lib.hid (show ∀ x ∈ l, x.2.length ≤ 1000000 from fun x hx => by have := HV.out x hx; omega)
                have hm7 : m7 ≤ 50 := by have h1 := ho7'.len; have h2 := hlen.out; omega
                have hm11 : m11 ≤ 50 := by have h1 := ho11.len; have h2 := hplen.out; omega
                clear ho3 ho3' ho5 ho5' hown6 hown10 ho7 hs8
                go_wp2_with fail
                refine (lmultis_any ho7' HLV.out (by omega)).mono ?_
                rintro e w8 ⟨A13, m13, c13, rfl, ho13, hb8⟩
                have hbel8 : Below w.heap.size w w8 := Below.trans hbel7 (hb8.mono hz7)
                have hz8 := hbel8.size
                clear hcv8 hcv12 hcvs
                go_wp2_with fail
                refine (lmultis_any (multis_move HL.out hbel8) HLV.out (by omega)).mono ?_
                rintro e w9 ⟨A14, m14, c14, rfl, ho14, hb9⟩
                have hbel9 : Below w.heap.size w w9 := Below.trans hbel8 (hb9.mono hz8)
                have hz9 := hbel9.size
                go_wp2_with fail
                refine (same_any (items_move (ho13.arr (by decide)) hb9) (ho14.arr (by decide))).mono ?_
                rintro e w10 ⟨rfl, hb10⟩
                have hbel10 : Below w.heap.size w w10 := Below.trans hbel9 (hb10.mono hz9)
                have hz10 := hbel10.size
                have ho11' := ho11.after (seqB hb8 (seqB hb9 hb10))
                clear ho13 ho14
                go_wp2_with fail
                refine (lpairs_any (S2 := fun _ => True) ho11' (by omega)).mono ?_
                rintro e w11 ⟨A15, m15, c15, rfl, ho15, hb11⟩
                have hbel11 : Below w.heap.size w w11 := Below.trans hbel10 (hb11.mono hz10)
                have hz11 := hbel11.size
                go_wp2_with fail
                refine (lpairs_any (S2 := fun _ => True) (HP.out.after hbel11) (by omega)).mono ?_
                rintro e w12 ⟨A16, m16, c16, rfl, ho16, hb12⟩
                have hbel12 : Below w.heap.size w w12 := Below.trans hbel11 (hb12.mono hz11)
                have hz12 := hbel12.size
                have ha15 := items_move (items_now ho15 hb11 (fun _ h => h.elim)) hb12
                have ha16 := items_now ho16 hb12 (fun _ h => h.elim)
                clear ho15 ho16
                go_wp2_with fail
                refine (same_any ha15 ha16).mono ?_
                rintro e w13 ⟨rfl, hb13⟩
                have hbel13 : Below w.heap.size w w13 := Below.trans hbel12 (hb13.mono hz12)
                have hz13 := hbel13.size
                obtain ⟨rk, hrk⟩ : ∃ r, getTexts bs = r := ⟨_, rfl⟩
                have HRK := Lib.hid hrk; clear hrk
                clear ha15 ha16
                go_wp2_with fail
                refine (getTexts_any (HS.out.after hbel13) (by omega) rk HRK.out).mono ?_
                rintro e w14 ⟨A17, m17, c17, A18, m18, c18, rfl, ho17, hs18, hb14⟩
                have hbel14 : Below w.heap.size w w14 := Below.trans hbel13 (hb14.mono hz13)
                have hz14 := hbel14.size
                cases rk with
                | error ek =>
                  have hne : ek ≠ 0 := gts_ne HRK.out
                  have hne1 : (ek == 0) = false := by simpa using hne
                  have hne2 : (ek != 0) = true := by simpa using hne
                  obtain rfl : m17 = 0 := ho17.len (by decide)
                  go_wp2_with fail
                  go_ret
                  exact ⟨rfl, hbel14⟩
                | ok pk =>
                  obtain ⟨kl, tl⟩ := pk
                  obtain ⟨zb, hzb, hzt⟩ := texts_fore _ _ _ HRK.out
                  have HZB := Lib.hid hzb; clear hzb
                  have hadd := add_str2 zb tl (by have h1 := congrArg List.length hzt; rw [List.length_append] at h1; omega)
                  rw [hzt] at hadd
                  have HZT := Lib.hid hzt; clear hzt
                  simp only [rerr_ok, rval_ok, rrest_ok] at ho17 hs18 ⊢
                  go_wp2_with fail
                  refine (texts_any (ho17.arr (by decide)) _ HZB.out).mono ?_
                  rintro e w15 ⟨A19, m19, c19, rfl, ho19, hb15⟩
                  have hbel15 : Below w.heap.size w w15 := Below.trans hbel14 (hb15.mono hz14)
                  have hcvz := conv_sl ho19.sl
                  have hcvt := conv_sl (hs18.after hb15)
                  have hcvb := conv_sl (HS.out.after hbel15)
                  simp only [wval_ok] at hcvz
                  go_wp2_with fail
                  go_ret
                  exact ⟨by simp, hbel15⟩
end Go.Proofs.Sb
