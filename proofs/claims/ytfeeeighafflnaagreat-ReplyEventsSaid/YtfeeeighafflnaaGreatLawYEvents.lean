/- The walk over signalboxlaw09.ReplyEvents: true at every input, and nothing that was there has turned. Conditions: lengths up to 2^47. -/
import Derived.Test.YtfeeeighafflnaaGreatLawYPuts
import Derived.Test.YtfeeeighafflnaaGreatArgsy
import Derived.Says
import Derived.Great.BuildSlice
set_option linter.unusedVariables false
set_option linter.unusedSimpArgs false
namespace Sb
open Go.Proofs.Sb
def evA (n : Nte) : Rp := { Rp.of 12 with note := n }
def evB (c : Chg) : Rp := { Rp.of 8 with kind := 5, change := c }
end Sb
namespace Go.Proofs.Sb
open Go.RowKit _root_.Sb
def evTA (ad sc : Tr) : Trs := { Trs.z with ad := ad, sc := sc }
def evTB (cg : Tr) : Trs := { Trs.z with cg := cg }
theorem rpInfo : (Tryz.prog.info? 40).map (fun i => (i.zero, i.size)) = some (some (.agg #[.int .u8 0, .int .u32 0, .string ⟨#[]⟩, .int .u16 0, .int .i32 0, .int .i32 0, .int .i32 0, .int .u8 0, .string ⟨#[]⟩, .string ⟨#[]⟩, .string ⟨#[]⟩, .slice none 0 0, .slice none 0 0, .string ⟨#[]⟩, .slice none 0 0, .int .i64 0, .slice none 0 0, .string ⟨#[]⟩, .string ⟨#[]⟩, .slice none 0 0, .int .u32 0, .string ⟨#[]⟩, .string ⟨#[]⟩, .string ⟨#[]⟩, .string ⟨#[]⟩, .slice none 0 0, .int .u32 0, .string ⟨#[]⟩, .string ⟨#[]⟩, .string ⟨#[]⟩, .string ⟨#[]⟩, .slice none 0 0, .slice none 0 0, .slice none 0 0]), 34) := by kernel_rfl
set_option maxHeartbeats 8000000 in
set_option maxRecDepth 100000 in
theorem replyEvents_any {S : Nat → Prop} {w : World} {n : Nte} {c : Chg} {ad sc cg : Tr} (hA : RpR S w (evA n) (evTA ad sc)) (hB : RpR S w (evB c) (evTB cg)) (hDA : RpA 140737488355328 (evA n)) (hDB : RpA 140737488355328 (evB c)) :
    Calls Tryz.prog 4 #[.agg (nteV n ad.v sc.v).toArray, .agg (chgV c cg.v).toArray] w fun e w' => e = .returned (.bool true) ∧ Below w.heap.size w w' := by
  have HPA := Lib.hid (goesRp.mono (S' := fun b => S b ∧ b < w.heap.size) hA fun b h1 h2 => ⟨h1, h2⟩); clear hA
  have HPB := Lib.hid (goesRp.mono (S' := fun b => S b ∧ b < w.heap.size) hB fun b h1 h2 => ⟨h1, h2⟩); clear hB
  have HDA := Lib.hid hDA; have HDB := Lib.hid hDB; clear hDA hDB
  go_enter Tryz.func4, Tryz.ntmps4
  go_upto_region 1 with fail
  obtain ⟨w1, hw1⟩ : ∃ w1, w1 = (w.alloc (.cells (nteV n ad.v sc.v).toArray 38)).alloc (.cells (chgV c cg.v).toArray 36) := ⟨_, rfl⟩
  rw [← hw1]
  have b2 : Below (w.alloc (.cells (nteV n ad.v sc.v).toArray 38)).heap.size (w.alloc (.cells (nteV n ad.v sc.v).toArray 38)) w1 := by rw [hw1]; exact (Below.refl _ _).alloc (Nat.le_refl _) _
  have HB1 : Hid (Below w.heap.size w w1) := Lib.hid (by rw [hw1]; exact ((Below.refl _ _).alloc (Nat.le_refl _) _).alloc (by simp) _)
  have HN1 : Hid (Bx (fun b => b = w.heap.size) w1 w.heap.size (nteV n ad.v sc.v)) := Lib.hid (Bx.after (Bx.alloc w (nteV n ad.v sc.v).toArray 38 (X := w.heap.size) (S := fun b => b = w.heap.size) (by simp) (by simp)) b2)
  have HC1 : Hid (Bx (fun b => b = w.heap.size + 1) w1 (w.heap.size + 1) (chgV c cg.v)) := Lib.hid (by rw [hw1]; exact Bx.alloc _ (chgV c cg.v).toArray 36 (X := w.heap.size + 1) (S := fun b => b = w.heap.size + 1) (by simp) (by simp))
  clear hw1 b2
  go_wp2_with fail
  refine (awake9 _).mono ?_
  rintro e w2 ⟨rfl, hb2⟩
  have HB2 := Lib.hid (HB1.out.trans (hb2.mono HB1.out.size))
  have HN2 := Lib.hid (goesBx.after HN1.out hb2)
  have HC2 := Lib.hid (goesBx.after HC1.out hb2)
  clear hb2 HN1 HC1
  have hln2 := HN2.out.lt
  have hlc2 := HC2.out.lt
  go_upto_region 5 with (first | (refine wpList_loadB HN2.out (by rfl) 38 _ (by rfl) (by rfl) _ Tryz.underlying38 rfl (by kernel_rfl) ?_) | (refine wpList_built (by rfl) 40 _ (by rfl) (rpT (evA n) (evTA ad sc)).toArray (by kernel_rfl) ?_) | (refine wpList_store_newB (by rfl) 40 _ _ (by rfl) _ _ _ _ (by rfl) (by rfl) (by simp) (by rfl) (by kernel_rfl) (by rfl) (by rfl) ?_; intro w3 hb3 hz3 hx3; have HB3 := Lib.hid (HB2.out.trans (hb3.mono HB2.out.size)); have HC3 := Lib.hid (goesBx.after HC2.out hb3); have HA3 : Hid (Bx (fun b => b = w2.heap.size) w3 w2.heap.size (rpT (evA n) (evTA ad sc))) := Lib.hid hx3; clear hb3 hz3 hx3))
  obtain ⟨XA, hXA⟩ : ∃ X, X = w2.heap.size := ⟨_, rfl⟩
  rw [← hXA] at HA3 ⊢
  have hXA2 : w2.heap.size ≤ XA := by omega
  clear hXA
  have hla3 := HA3.out.lt
  have hlc3 := HC3.out.lt
  go_upto_region 6 with (first | (refine wpList_loadB HC3.out (by rfl) 36 _ (by rfl) (by rfl) _ Tryz.underlying36 rfl (by kernel_rfl) ?_) | (refine wpList_built (by rfl) 40 _ (by rfl) (rpT (evB c) (evTB cg)).toArray (by kernel_rfl) ?_) | (refine wpList_store_newB (by rfl) 40 _ _ (by rfl) _ _ _ _ (by rfl) (by rfl) (by simp) (by rfl) (by kernel_rfl) (by rfl) (by rfl) ?_; intro w4 hb4 hz4 hx4; have HB4 := Lib.hid (HB3.out.trans (hb4.mono HB3.out.size)); have HA4 := Lib.hid (goesBx.after HA3.out hb4); have HC4 : Hid (Bx (fun b => b = w3.heap.size) w4 w3.heap.size (rpT (evB c) (evTB cg))) := Lib.hid hx4; clear hb4 hz4 hx4))
  obtain ⟨XB, hXB⟩ : ∃ X, X = w3.heap.size := ⟨_, rfl⟩
  rw [← hXB] at HC4 ⊢
  have hXB2 : w3.heap.size ≤ XB := by omega
  clear hXB
  have hla4 := HA4.out.lt
  have hlc4 := HC4.out.lt
  go_wp2_with (first | (refine wpList_loadB HA4.out (by rfl) 40 _ (by rfl) (by rfl) _ Tryz.underlying40 rfl (by kernel_rfl) ?_))
  refine (slight9_any (x := evA n) (t := evTA ad sc) (goesRp.after HPA.out HB4.out) HDA.out).mono ?_
  rintro e w5 ⟨β1, rfl, hβ1, hb5⟩
  have HB5 := Lib.hid (HB4.out.trans (hb5.mono HB4.out.size))
  have HA5 := Lib.hid (goesBx.after HA4.out hb5)
  have HC5 := Lib.hid (goesBx.after HC4.out hb5)
  have HE1 := Lib.hid hβ1; clear hβ1 hb5
  have hla5 := HA5.out.lt
  have hlc5 := HC5.out.lt
  go_wp2_with (first | (refine wpList_loadB HC5.out (by rfl) 40 _ (by rfl) (by rfl) _ Tryz.underlying40 rfl (by kernel_rfl) ?_))
  refine (slight9_any (x := evB c) (t := evTB cg) (goesRp.after HPB.out HB5.out) HDB.out).mono ?_
  rintro e w6 ⟨β2, rfl, hβ2, hb6⟩
  have HB6 := Lib.hid (HB5.out.trans (hb6.mono HB5.out.size))
  have HA6 := Lib.hid (goesBx.after HA5.out hb6)
  have HC6 := Lib.hid (goesBx.after HC5.out hb6)
  have HE2 := Lib.hid hβ2; clear hβ2 hb6
  have hla6 := HA6.out.lt
  have hlc6 := HC6.out.lt
  have HBE1 := HE1; have HBE2 := HE2
  cases β1 with
  | false =>
    go_wp2_with fail
    go_ret
    exact ⟨rfl, HB6.out⟩
  | true =>
  cases β2 with
  | false =>
    go_wp2_with fail
    go_ret
    exact ⟨rfl, HB6.out⟩
  | true =>
  obtain ⟨ie, hie⟩ : ∃ ie, Tryz.prog.info? 40 = some ie := by
    cases h : Tryz.prog.info? 40 with
    | none => have := rpInfo; rw [h] at this; cases this
    | some ie => exact ⟨ie, rfl⟩
  have hri := rpInfo
  rw [hie] at hri
  simp only [Option.map_some, Option.some.injEq, Prod.mk.injEq] at hri
  obtain ⟨hiz, his⟩ := hri
  have HIE := Lib.hid hie; have HIZ := Lib.hid hiz; have HIS := Lib.hid his
  clear hie hiz his
  go_upto_region 11 with (first | (refine wpList_buildSlice (by rfl) 62 40 2 _ (by rfl) (rpT (evA n) (evTA ad sc) ++ rpT (evB c) (evTB cg)).toArray ie _ Tryz.underlying62 HIE.out HIZ.out (by rw [HIS.out]; decide) (by rw [HIS.out]; decide) (by rw [HIS.out]; kernel_rfl) ?_) | (refine wpList_loadB HA6.out (by rfl) 40 _ (by rfl) (by rfl) _ Tryz.underlying40 rfl (by kernel_rfl) ?_) | (refine wpList_loadB HC6.out (by rfl) 40 _ (by rfl) (by rfl) _ Tryz.underlying40 rfl (by kernel_rfl) ?_))
  obtain ⟨w7, hw7⟩ : ∃ w7, w7 = w6.alloc (.cells (rpT (evA n) (evTA ad sc) ++ rpT (evB c) (evTB cg)).toArray 40) := ⟨_, rfl⟩
  rw [← hw7]
  have hb67 : Below w6.heap.size w6 w7 := by rw [hw7]; exact (Below.refl _ _).alloc (Nat.le_refl _) _
  have HL7 : Hid (Bx (fun b => b = w6.heap.size) w7 w6.heap.size (rpT (evA n) (evTA ad sc) ++ rpT (evB c) (evTB cg))) := Lib.hid (by rw [hw7]; exact Bx.alloc w6 (rpT (evA n) (evTA ad sc) ++ rpT (evB c) (evTB cg)).toArray 40 (X := w6.heap.size) (S := fun b => b = w6.heap.size) (by simp) (by simp))
  have HB7 := Lib.hid (HB6.out.trans (hb67.mono HB6.out.size))
  clear hb67 hw7
  obtain ⟨L, hL⟩ : ∃ X, X = w6.heap.size := ⟨_, rfl⟩
  rw [← hL] at HL7 ⊢
  clear hL
  have HSA := Lib.hid (HBE1.out (by first | rfl | trivial))
  have HSB := Lib.hid (HBE2.out (by first | rfl | trivial))
  clear HBE1 HBE2 HE1 HE2 HIE HIZ HIS
  go_wp2_with fail
  go_loopw [11] (fun i wr => ∃ k : Nat, k ≤ 2 ∧ i = .int .i64 (k : Nat) ∧ Hid (Below w7.heap.size w7 wr)) (fun i _ => 2 - (intOf i).toNat)
  case atStart => exact ⟨0, by omega, rfl, Lib.hid (Below.refl _ _)⟩
  case round =>
    obtain ⟨k, hk, rfl, HBr⟩ := hrel
    have HB8 := Lib.hid (HB7.out.trans (HBr.out.mono HB7.out.size))
    by_cases hlt : k < 2
    · obtain ⟨x, t, hx1, hx2, hx3, hx6, hx4, hx5⟩ : ∃ x t, RpR (fun b => S b ∧ b < w.heap.size) w x t ∧ RpA 140737488355328 x ∧ RpS x ∧ x.token.bytes.length ≤ 1048576 ∧ (∀ w', Below w7.heap.size w7 w' → w'.rangeAt L (k * 34) (rpT x t)) ∧ (∀ w', Below w7.heap.size w7 w' → w'.cell? ⟨L, k * 34, none⟩ = some (.int .u8 ((x.opcode : Nat) : Int))) := by
        match k, hlt with
        | 0, _ => exact ⟨evA n, evTA ad sc, HPA.out, HDA.out, HSA.out, Nat.zero_le _, fun w' h => (goesBx.after HL7.out h).range_at (o := 0 * 34) (us := rpT (evA n) (evTA ad sc)) rfl, fun w' h => (goesBx.after HL7.out h).c 0 _ rfl⟩
        | 1, _ => exact ⟨evB c, evTB cg, HPB.out, HDB.out, HSB.out, Nat.zero_le _, fun w' h => (goesBx.after HL7.out h).range_at (o := 1 * 34) (us := rpT (evB c) (evTB cg)) rfl, fun w' h => (goesBx.after HL7.out h).c 34 _ rfl⟩
      have HP := Lib.hid hx1; have HRA := Lib.hid hx2; have HL := Lib.hid hx3; have HT0 := Lib.hid hx6; have HRG := Lib.hid hx4; have HOP := Lib.hid hx5
      clear hx1 hx2 hx3 hx4 hx5 hx6
      have q2 : (k : Int) < 2 := by omega
      obtain ⟨r, hr⟩ : ∃ r, putRp x = r := ⟨_, rfl⟩
      have HR := Lib.hid hr; clear hr
      go_wp2_with (first | (refine wpList_load_mid (by rfl) 40 _ (by rfl) L (k * 34) (by rfl) (rpT x t) _ (HRG.out _ (HBr.out)) Tryz.underlying40 rfl (by kernel_rfl) ?_))
      refine (rPut9_any (x := x) (t := t) (goesRp.after HP.out HB8.out) (small_B HRA.out HL.out) (small_Q HL.out) r HR.out).mono ?_
      rintro e w9 ⟨A9, n9, c9, rfl, hs9, hb9⟩
      have HS9 := Lib.hid hs9
      have HB79 := Lib.hid (HBr.out.trans (hb9.mono HBr.out.size))
      have HB9 := Lib.hid (HB8.out.trans (hb9.mono HB8.out.size))
      clear hs9 hb9
      go_wp2_with (first | (refine wpList_load_mid (by rfl) 40 _ (by rfl) L (k * 34) (by rfl) (rpT x t) _ (HRG.out _ (HB79.out)) Tryz.underlying40 rfl (by kernel_rfl) ?_))
      refine (replyOf_any (x := x) (t := t) (goesRp.after HP.out HB9.out) (rpL_small HRA.out HL.out)).mono ?_
      rintro e w10 ⟨t10, rfl, hrf, hb10⟩
      have HB710 := Lib.hid (HB79.out.trans (hb10.mono HB79.out.size))
      have HB10 := Lib.hid (HB9.out.trans (hb10.mono HB9.out.size))
      have HS10 := Lib.hid (HS9.out.after hb10)
      have HRF := Lib.hid hrf
      clear hrf hb10 HS9
      go_wp2_with fail
      refine (rPut9ref_any HRF.out (rfB_small HRA.out HL.out) (wl_small' HRA.out HL.out) r (by rw [putRf_eq, HR.out]) (fun h => putRp_ne (HR.out.trans h) rfl)).mono ?_
      rintro e w11 ⟨A11, n11, c11, rfl, hs11, hb11⟩
      have HB711 := Lib.hid (HB710.out.trans (hb11.mono HB710.out.size))
      have HB11 := Lib.hid (HB10.out.trans (hb11.mono HB10.out.size))
      have HS11 := Lib.hid (HS10.out.after hb11)
      have HT11 := Lib.hid hs11
      have cv1 := conv_sl HS11.out
      have cv2 := conv_sl hs11
      clear hs11 hb11 HS10 HRF
      have hle := small_len HRA.out HL.out HT0.out
      rw [HR.out, ← lenS_val] at hle
      have hl9 : n9 ≤ 140737488355328 := by have := HS11.out.len; omega
      have hl11 : n11 ≤ 140737488355328 := by have := HT11.out.len; omega
      clear hle
      obtain ⟨rr, hrr⟩ : ∃ rr, getRp x.opcode (wval r) = rr := ⟨_, rfl⟩
      have HRR := Lib.hid hrr
      have HYL := Lib.hid (rpOf_rpL hrr)
      clear hrr
      have o11 := HOP.out _ HB711.out
      have hll := World.block_lt_of_cell? w11 ⟨L, k * 34, none⟩ o11
      go_upto_region 18 with fail
      clear cv1 cv2
      go_wp2_with fail
      refine (rGet9_any (op := x.opcode) HS11.out hl9 rr HRR.out).mono ?_
      rintro e w12 ⟨t12, rfl, hq12, hb12⟩
      have HB712 := Lib.hid (HB711.out.trans (hb12.mono HB711.out.size))
      have HB12 := Lib.hid (HB11.out.trans (hb12.mono HB11.out.size))
      have HT12 := Lib.hid (HT11.out.after hb12)
      have HQ12 : Hid (RpR (fun b => b < w12.heap.size) w12 (rpOf rr) t12) := Lib.hid (goesRp.mono (S' := fun b => b < w12.heap.size) hq12 fun b _ h => h)
      clear o11 hq12 hb12 HS11 HT11 hll
      obtain ⟨q, hq⟩ : ∃ q, rpOf rr = q := ⟨_, rfl⟩
      rw [hq] at HYL HQ12 ⊢
      obtain ⟨us, hus⟩ : ∃ us, us = rpT q t12 := ⟨_, rfl⟩
      have hul : us.length = 34 := by rw [hus]; rfl
      have hone : us.all (·.oneCell') = true := by rw [hus]; rfl
      rw [← hus]
      have HUS := Lib.hid hus
      have HQE := Lib.hid hq
      clear hus hq
      go_upto_region 19 with (first | (refine wpList_store_newB (by rfl) 40 _ _ (by rfl) _ _ _ _ (by rfl) (by rfl) (by simp) (by rfl) (by rw [hul]; kernel_rfl) (by rw [hul]; rfl) hone ?_; intro w13 hb13 hz13 hx13; have HB713 := Lib.hid (HB712.out.trans (hb13.mono HB712.out.size)); have HB13 := Lib.hid (HB12.out.trans (hb13.mono HB12.out.size)); have HT13 := Lib.hid (HT12.out.after hb13); have HQ13 := Lib.hid (goesRp.after HQ12.out hb13); have HZ13 : Hid (Bx (fun b => b = w12.heap.size) w13 w12.heap.size us) := Lib.hid hx13; clear hb13 hz13 hx13 HT12 HQ12))
      have hlz13 := HZ13.out.lt
      have o13 := HOP.out _ HB713.out
      have hll := World.block_lt_of_cell? w13 ⟨L, k * 34, none⟩ o13
      go_wp2_with fail
      refine (rGet9ref_any (op := x.opcode) HT13.out hl11 (emap rr) (by rw [getRf_eq, HRR.out])).mono ?_
      rintro e w14 ⟨t14, rfl, hq14, hb14⟩
      have HB714 := Lib.hid (HB713.out.trans (hb14.mono HB713.out.size))
      have HB14 := Lib.hid (HB13.out.trans (hb14.mono HB13.out.size))
      have HZ14 := Lib.hid (goesBx.after HZ13.out hb14)
      have HQ14 := Lib.hid (goesRp.after HQ13.out hb14)
      rw [emap_val, HQE.out] at hq14
      rw [emap_val, emap_err, HQE.out]
      obtain ⟨er, her⟩ : ∃ er, erP rr = er := ⟨_, rfl⟩
      rw [her]
      clear her
      have HF14 := Lib.hid hq14
      obtain ⟨zs, hzs⟩ : ∃ zs, zs = rfV (rfOf q) t14 := ⟨_, rfl⟩
      have hzl : zs.length = 27 := by rw [hzs]; rfl
      have hzone : zs.all (·.oneCell') = true := by rw [hzs]; rfl
      rw [← hzs]
      have HZS := Lib.hid hzs
      clear hzs hb14 hq14 HZ13 HQ13 HT13 o13 hll hone
      go_upto_region 20 with (first | (refine wpList_store_newB (by rfl) 54 _ _ (by rfl) _ _ _ _ (by rfl) (by rfl) (by simp) (by rfl) (by rw [hzl]; kernel_rfl) (by rw [hzl]; rfl) hzone ?_; intro w15 hb15 hz15 hx15; have HB715 := Lib.hid (HB714.out.trans (hb15.mono HB714.out.size)); have HB15 := Lib.hid (HB14.out.trans (hb15.mono HB14.out.size)); have HZ15 := Lib.hid (goesBx.after HZ14.out hb15); have HQ15 := Lib.hid (goesRp.after HQ14.out hb15); have HF15 := Lib.hid (goesRf.after HF14.out hb15); have HV15 : Hid (Bx (fun b => b = w14.heap.size) w15 w14.heap.size zs) := Lib.hid hx15; clear hb15 hz15 hx15))
      have hlv15 := HV15.out.lt
      have hlz15 := HZ15.out.lt
      have hdr : Below w15.heap.size w15 w15.drew := (Below.refl _ _).drew
      have HXA := Lib.hid (goesBx.after HZ15.out hdr)
      have HXB := Lib.hid (goesBx.after HV15.out hdr)
      have HQD := Lib.hid (goesRp.after HQ15.out hdr)
      have HFD := Lib.hid (goesRf.after HF15.out hdr)
      have hz15 := HB715.out.size
      clear hdr hzone
      cases r with
      | error e =>
        have hne : (e == 0) = false := by simpa using putRp_ne HR.out
        simp only [werr_error]
        refine reg_start (by kernel_rfl) ?_
        (refine reg_take 0 (v := ?_) (by rfl) (by kernel_rfl) (by kernel_rfl) (by kernel_rfl) (by exact fun _ _ _ h => h) (by rfl) ?_ ?_; rotate_left; focus (intro w hSw; go_simp; try with_reducible rfl))
        simp only [Act.put, List.setIfInBounds_toArray, List.set_cons_zero, List.set_cons_succ]
        (refine reg_take 1 (v := ?_) (by rfl) (by kernel_rfl) (by kernel_rfl) (by kernel_rfl) (by exact fun _ _ _ h => h) (by rfl) ?_ ?_; rotate_left; focus (intro w hSw; go_simp; try with_reducible rfl))
        simp only [Act.put, List.setIfInBounds_toArray, List.set_cons_zero, List.set_cons_succ]
        (refine reg_take 2 (v := ?_) (by rfl) (by kernel_rfl) (by kernel_rfl) (by kernel_rfl) (by exact fun _ _ _ h => h) (by rfl) ?_ ?_; rotate_left; focus (intro w hSw; go_simp; try with_reducible rfl))
        simp only [Act.put, List.setIfInBounds_toArray, List.set_cons_zero, List.set_cons_succ]
        first | (refine reg_skip 3 (by rfl) (by kernel_rfl) (by kernel_rfl) (by kernel_rfl) (by exact fun _ _ _ h => h) (by rfl) ?_) | (refine reg_take 3 (v := ?_) (by rfl) (by kernel_rfl) (by kernel_rfl) (by kernel_rfl) (by exact fun _ _ _ h => h) (by rfl) ?_ ?_; rotate_left; focus (intro w hSw; go_simp; try with_reducible rfl))
        simp only [Act.put, List.setIfInBounds_toArray, List.set_cons_zero, List.set_cons_succ]
        first | (refine reg_skip 4 (by rfl) (by kernel_rfl) (by kernel_rfl) (by kernel_rfl) (by exact fun _ _ _ h => h) (by rfl) ?_) | (refine reg_take 4 (v := ?_) (by rfl) (by kernel_rfl) (by kernel_rfl) (by kernel_rfl) (by exact fun _ _ _ h => h) (by rfl) ?_ ?_; rotate_left; focus (intro w hSw; go_simp; try with_reducible rfl))
        simp only [Act.put, List.setIfInBounds_toArray, List.set_cons_zero, List.set_cons_succ]
        first | (refine reg_skip 5 (by rfl) (by kernel_rfl) (by kernel_rfl) (by kernel_rfl) (by exact fun _ _ _ h => h) (by rfl) ?_) | (refine reg_take 5 (v := ?_) (by rfl) (by kernel_rfl) (by kernel_rfl) (by kernel_rfl) (by exact fun _ _ _ h => h) (by rfl) ?_ ?_; rotate_left; focus (intro w hSw; go_simp; try with_reducible rfl))
        simp only [Act.put, List.setIfInBounds_toArray, List.set_cons_zero, List.set_cons_succ]
        first | (refine reg_skip 6 (by rfl) (by kernel_rfl) (by kernel_rfl) (by kernel_rfl) (by exact fun _ _ _ h => h) (by rfl) ?_) | (refine reg_take 6 (v := ?_) (by rfl) (by kernel_rfl) (by kernel_rfl) (by kernel_rfl) (by exact fun _ _ _ h => h) (by rfl) ?_ ?_; rotate_left; focus (intro w hSw; go_simp; try with_reducible rfl))
        simp only [Act.put, List.setIfInBounds_toArray, List.set_cons_zero, List.set_cons_succ]
        refine reg_two 7 9 (by kernel_rfl) (by rfl) (by rfl) (fun K hK => ?_) (fun K hK => ?_)
        focus
          go_simp
          refine hK.out _ _ ((by unfold Aft; exact Below.refl _ _)) ?_
          clear hK K
          try simp only [Act.put, List.setIfInBounds_toArray, List.set_cons_zero, List.set_cons_succ]
          refine reg_two 8 9 (by kernel_rfl) (by rfl) (by rfl) (fun K hK => ?_) (fun K hK => ?_)
          focus
            go_simp
            refine hK.out _ _ ((by unfold Aft; exact Below.refl _ _)) ?_
            clear hK K
            try simp only [Act.put, List.setIfInBounds_toArray, List.set_cons_zero, List.set_cons_succ]
            refine reg_call 9 (by kernel_rfl) (by rfl) (fun K hK => ?_)
            go_simp
            refine hK.out _ _ ((by unfold Aft; exact Below.refl _ _)) ?_
            clear hK K
            try simp only [Act.put, List.setIfInBounds_toArray, List.set_cons_zero, List.set_cons_succ]
            refine reg_call 10 (by kernel_rfl) (by rfl) (fun K hK => ?_)
            go_simp
            refine hK.out _ _ ((by unfold Aft; exact Below.refl _ _)) ?_
            clear hK K
            try simp only [Act.put, List.setIfInBounds_toArray, List.set_cons_zero, List.set_cons_succ]
            first | (refine reg_skip 11 (by rfl) (by kernel_rfl) (by kernel_rfl) (by kernel_rfl) (by exact fun _ _ _ h => h) (by rfl) ?_) | (refine reg_take 11 (v := ?_) (by rfl) (by kernel_rfl) (by kernel_rfl) (by kernel_rfl) (by exact fun _ _ _ h => h) (by rfl) ?_ ?_; rotate_left; focus (intro w hSw; go_simp; try with_reducible rfl))
            simp only [Act.put, List.setIfInBounds_toArray, List.set_cons_zero, List.set_cons_succ]
            first | (refine reg_skip 12 (by rfl) (by kernel_rfl) (by kernel_rfl) (by kernel_rfl) (by exact fun _ _ _ h => h) (by rfl) ?_) | (refine reg_take 12 (v := ?_) (by rfl) (by kernel_rfl) (by kernel_rfl) (by kernel_rfl) (by exact fun _ _ _ h => h) (by rfl) ?_ ?_; rotate_left; focus (intro w hSw; go_simp; try with_reducible rfl))
            simp only [Act.put, List.setIfInBounds_toArray, List.set_cons_zero, List.set_cons_succ]
            (refine reg_take 13 (v := ?_) (by rfl) (by kernel_rfl) (by kernel_rfl) (by kernel_rfl) (by exact fun _ _ _ h => h) (by rfl) ?_ ?_; rotate_left; focus (intro w hSw; go_simp; try with_reducible rfl))
            simp only [Act.put, List.setIfInBounds_toArray, List.set_cons_zero, List.set_cons_succ]
            refine wpAnyH_done (by kernel_rfl) ?_ _
          rotate_left 1
          focus
            go_simp
            refine hK.out _ _ ((by unfold Aft; exact Below.refl _ _)) ?_
            clear hK K
            try simp only [Act.put, List.setIfInBounds_toArray, List.set_cons_zero, List.set_cons_succ]
            refine reg_call 8 (by kernel_rfl) (by rfl) (fun K hK => ?_)
            go_simp
            refine hK.out _ _ ((by unfold Aft; exact Below.refl _ _)) ?_
            clear hK K
            try simp only [Act.put, List.setIfInBounds_toArray, List.set_cons_zero, List.set_cons_succ]
            refine reg_call 10 (by kernel_rfl) (by rfl) (fun K hK => ?_)
            go_simp
            refine hK.out _ _ ((by unfold Aft; exact Below.refl _ _)) ?_
            clear hK K
            try simp only [Act.put, List.setIfInBounds_toArray, List.set_cons_zero, List.set_cons_succ]
            first | (refine reg_skip 11 (by rfl) (by kernel_rfl) (by kernel_rfl) (by kernel_rfl) (by exact fun _ _ _ h => h) (by rfl) ?_) | (refine reg_take 11 (v := ?_) (by rfl) (by kernel_rfl) (by kernel_rfl) (by kernel_rfl) (by exact fun _ _ _ h => h) (by rfl) ?_ ?_; rotate_left; focus (intro w hSw; go_simp; try with_reducible rfl))
            simp only [Act.put, List.setIfInBounds_toArray, List.set_cons_zero, List.set_cons_succ]
            first | (refine reg_skip 12 (by rfl) (by kernel_rfl) (by kernel_rfl) (by kernel_rfl) (by exact fun _ _ _ h => h) (by rfl) ?_) | (refine reg_take 12 (v := ?_) (by rfl) (by kernel_rfl) (by kernel_rfl) (by kernel_rfl) (by exact fun _ _ _ h => h) (by rfl) ?_ ?_; rotate_left; focus (intro w hSw; go_simp; try with_reducible rfl))
            simp only [Act.put, List.setIfInBounds_toArray, List.set_cons_zero, List.set_cons_succ]
            (refine reg_take 13 (v := ?_) (by rfl) (by kernel_rfl) (by kernel_rfl) (by kernel_rfl) (by exact fun _ _ _ h => h) (by rfl) ?_ ?_; rotate_left; focus (intro w hSw; go_simp; try with_reducible rfl))
            simp only [Act.put, List.setIfInBounds_toArray, List.set_cons_zero, List.set_cons_succ]
            refine wpAnyH_done (by kernel_rfl) ?_ _
        rotate_left 2
        focus
          go_simp
          refine hK.out _ _ ((by unfold Aft; exact Below.refl _ _)) ?_
          clear hK K
          try simp only [Act.put, List.setIfInBounds_toArray, List.set_cons_zero, List.set_cons_succ]
          refine reg_call 7 (by kernel_rfl) (by rfl) (fun K hK => ?_)
          go_simp
          refine hK.out _ _ ((by unfold Aft; exact Below.refl _ _)) ?_
          clear hK K
          try simp only [Act.put, List.setIfInBounds_toArray, List.set_cons_zero, List.set_cons_succ]
          refine reg_call 8 (by kernel_rfl) (by rfl) (fun K hK => ?_)
          go_simp
          refine hK.out _ _ ((by unfold Aft; exact Below.refl _ _)) ?_
          clear hK K
          try simp only [Act.put, List.setIfInBounds_toArray, List.set_cons_zero, List.set_cons_succ]
          refine reg_call 10 (by kernel_rfl) (by rfl) (fun K hK => ?_)
          go_simp
          refine hK.out _ _ ((by unfold Aft; exact Below.refl _ _)) ?_
          clear hK K
          try simp only [Act.put, List.setIfInBounds_toArray, List.set_cons_zero, List.set_cons_succ]
          first | (refine reg_skip 11 (by rfl) (by kernel_rfl) (by kernel_rfl) (by kernel_rfl) (by exact fun _ _ _ h => h) (by rfl) ?_) | (refine reg_take 11 (v := ?_) (by rfl) (by kernel_rfl) (by kernel_rfl) (by kernel_rfl) (by exact fun _ _ _ h => h) (by rfl) ?_ ?_; rotate_left; focus (intro w hSw; go_simp; try with_reducible rfl))
          simp only [Act.put, List.setIfInBounds_toArray, List.set_cons_zero, List.set_cons_succ]
          first | (refine reg_skip 12 (by rfl) (by kernel_rfl) (by kernel_rfl) (by kernel_rfl) (by exact fun _ _ _ h => h) (by rfl) ?_) | (refine reg_take 12 (v := ?_) (by rfl) (by kernel_rfl) (by kernel_rfl) (by kernel_rfl) (by exact fun _ _ _ h => h) (by rfl) ?_ ?_; rotate_left; focus (intro w hSw; go_simp; try with_reducible rfl))
          simp only [Act.put, List.setIfInBounds_toArray, List.set_cons_zero, List.set_cons_succ]
          (refine reg_take 13 (v := ?_) (by rfl) (by kernel_rfl) (by kernel_rfl) (by kernel_rfl) (by exact fun _ _ _ h => h) (by rfl) ?_ ?_; rotate_left; focus (intro w hSw; go_simp; try with_reducible rfl))
          simp only [Act.put, List.setIfInBounds_toArray, List.set_cons_zero, List.set_cons_succ]
          refine wpAnyH_done (by kernel_rfl) ?_ _
        all_goals
          have HB17 : Hid (Below w7.heap.size w7 w15.drew) := Lib.hid (HB715.out.trans ((Below.refl w15.heap.size w15).drew.mono hz15))
          go_wp2_with fail
          refine ⟨⟨k + 1, by omega, by go_num, HB17⟩, by simp [intOf]; omega⟩
      | ok cb =>
        simp only [werr_ok]
        refine reg_start (by kernel_rfl) ?_
        (refine reg_take 0 (v := ?_) (by rfl) (by kernel_rfl) (by kernel_rfl) (by kernel_rfl) (by exact fun _ _ _ h => h) (by rfl) ?_ ?_; rotate_left; focus (intro w hSw; go_simp; try with_reducible rfl))
        simp only [Act.put, List.setIfInBounds_toArray, List.set_cons_zero, List.set_cons_succ]
        (refine reg_take 1 (v := ?_) (by rfl) (by kernel_rfl) (by kernel_rfl) (by kernel_rfl) (by exact fun _ _ _ h => h) (by rfl) ?_ ?_; rotate_left; focus (intro w hSw; go_simp; try with_reducible rfl))
        simp only [Act.put, List.setIfInBounds_toArray, List.set_cons_zero, List.set_cons_succ]
        (refine reg_take 2 (v := ?_) (by rfl) (by kernel_rfl) (by kernel_rfl) (by kernel_rfl) (by exact fun _ _ _ h => h) (by rfl) ?_ ?_; rotate_left; focus (intro w hSw; go_simp; try with_reducible rfl))
        simp only [Act.put, List.setIfInBounds_toArray, List.set_cons_zero, List.set_cons_succ]
        first | (refine reg_skip 3 (by rfl) (by kernel_rfl) (by kernel_rfl) (by kernel_rfl) (by exact fun _ _ _ h => h) (by rfl) ?_) | (refine reg_take 3 (v := ?_) (by rfl) (by kernel_rfl) (by kernel_rfl) (by kernel_rfl) (by exact fun _ _ _ h => h) (by rfl) ?_ ?_; rotate_left; focus (intro w hSw; go_simp; try with_reducible rfl))
        simp only [Act.put, List.setIfInBounds_toArray, List.set_cons_zero, List.set_cons_succ]
        first | (refine reg_skip 4 (by rfl) (by kernel_rfl) (by kernel_rfl) (by kernel_rfl) (by exact fun _ _ _ h => h) (by rfl) ?_) | (refine reg_take 4 (v := ?_) (by rfl) (by kernel_rfl) (by kernel_rfl) (by kernel_rfl) (by exact fun _ _ _ h => h) (by rfl) ?_ ?_; rotate_left; focus (intro w hSw; go_simp; try with_reducible rfl))
        simp only [Act.put, List.setIfInBounds_toArray, List.set_cons_zero, List.set_cons_succ]
        first | (refine reg_skip 5 (by rfl) (by kernel_rfl) (by kernel_rfl) (by kernel_rfl) (by exact fun _ _ _ h => h) (by rfl) ?_) | (refine reg_take 5 (v := ?_) (by rfl) (by kernel_rfl) (by kernel_rfl) (by kernel_rfl) (by exact fun _ _ _ h => h) (by rfl) ?_ ?_; rotate_left; focus (intro w hSw; go_simp; try with_reducible rfl))
        simp only [Act.put, List.setIfInBounds_toArray, List.set_cons_zero, List.set_cons_succ]
        first | (refine reg_skip 6 (by rfl) (by kernel_rfl) (by kernel_rfl) (by kernel_rfl) (by exact fun _ _ _ h => h) (by rfl) ?_) | (refine reg_take 6 (v := ?_) (by rfl) (by kernel_rfl) (by kernel_rfl) (by kernel_rfl) (by exact fun _ _ _ h => h) (by rfl) ?_ ?_; rotate_left; focus (intro w hSw; go_simp; try with_reducible rfl))
        simp only [Act.put, List.setIfInBounds_toArray, List.set_cons_zero, List.set_cons_succ]
        refine reg_two 7 9 (by kernel_rfl) (by rfl) (by rfl) (fun K hK => ?_) (fun K hK => ?_)
        focus
          refine step_loadW HXA.out (by rfl) 40 _ (by rfl) (by rfl) _ Tryz.underlying40 rfl (by rw [hul]; kernel_rfl) ?_
          refine hK.out _ _ ((by unfold Aft; exact Below.refl _ _)) ?_
          clear hK K
          try simp only [Act.put, List.setIfInBounds_toArray, List.set_cons_zero, List.set_cons_succ]
          refine reg_two 8 9 (by kernel_rfl) (by rfl) (by rfl) (fun K hK => ?_) (fun K hK => ?_)
          focus
            go_simp
            go_at_call 9; have hof := replyOf_any HQD.out HYL.out; rw [← HUS.out] at hof; refine hof.mono ?_; clear hof; rintro e w16 ⟨t16, rfl, hq16, hb16⟩
            refine hK.out _ _ (hb16) ?_
            clear hK K
            try simp only [Act.put, List.setIfInBounds_toArray, List.set_cons_zero, List.set_cons_succ]
            refine reg_call 9 (by kernel_rfl) (by rfl) (fun K hK => ?_)
            first | (refine step_loadW HXB.out (by rfl) 54 _ (by rfl) (by rfl) _ Tryz.underlying54 rfl (by rw [hzl]; kernel_rfl) ?_) | (refine step_loadW (goesBx.after HXB.out hb16) (by rfl) 54 _ (by rfl) (by rfl) _ Tryz.underlying54 rfl (by rw [hzl]; kernel_rfl) ?_)
            refine hK.out _ _ ((by unfold Aft; exact Below.refl _ _)) ?_
            clear hK K
            try simp only [Act.put, List.setIfInBounds_toArray, List.set_cons_zero, List.set_cons_succ]
            refine reg_call 10 (by kernel_rfl) (by rfl) (fun K hK => ?_)
            go_simp
            go_at_call 12; have hsm := same9_any hq16 (goesRf.after HFD.out hb16); rw [← HZS.out] at hsm; refine hsm.mono ?_; clear hsm; rintro e w17 ⟨rfl, hb17⟩
            refine hK.out _ _ (hb17) ?_
            clear hK K
            try simp only [Act.put, List.setIfInBounds_toArray, List.set_cons_zero, List.set_cons_succ]
            first | (refine reg_skip 11 (by rfl) (by kernel_rfl) (by kernel_rfl) (by kernel_rfl) (by exact fun _ _ _ h => h) (by rfl) ?_) | (refine reg_take 11 (v := ?_) (by rfl) (by kernel_rfl) (by kernel_rfl) (by kernel_rfl) (by exact fun _ _ _ h => h) (by rfl) ?_ ?_; rotate_left; focus (intro w hSw; go_simp; try with_reducible rfl))
            simp only [Act.put, List.setIfInBounds_toArray, List.set_cons_zero, List.set_cons_succ]
            first | (refine reg_skip 12 (by rfl) (by kernel_rfl) (by kernel_rfl) (by kernel_rfl) (by exact fun _ _ _ h => h) (by rfl) ?_) | (refine reg_take 12 (v := ?_) (by rfl) (by kernel_rfl) (by kernel_rfl) (by kernel_rfl) (by exact fun _ _ _ h => h) (by rfl) ?_ ?_; rotate_left; focus (intro w hSw; go_simp; try with_reducible rfl))
            simp only [Act.put, List.setIfInBounds_toArray, List.set_cons_zero, List.set_cons_succ]
            (refine reg_take 13 (v := ?_) (by rfl) (by kernel_rfl) (by kernel_rfl) (by kernel_rfl) (by exact fun _ _ _ h => h) (by rfl) ?_ ?_; rotate_left; focus (intro w hSw; go_simp; try with_reducible rfl))
            simp only [Act.put, List.setIfInBounds_toArray, List.set_cons_zero, List.set_cons_succ]
            refine wpAnyH_done (by kernel_rfl) ?_ _
          rotate_left 1
          focus
            first | (refine step_loadW HXB.out (by rfl) 54 _ (by rfl) (by rfl) _ Tryz.underlying54 rfl (by rw [hzl]; kernel_rfl) ?_) | (refine step_loadW (goesBx.after HXB.out hb16) (by rfl) 54 _ (by rfl) (by rfl) _ Tryz.underlying54 rfl (by rw [hzl]; kernel_rfl) ?_)
            refine hK.out _ _ ((by unfold Aft; exact Below.refl _ _)) ?_
            clear hK K
            try simp only [Act.put, List.setIfInBounds_toArray, List.set_cons_zero, List.set_cons_succ]
            refine reg_call 8 (by kernel_rfl) (by rfl) (fun K hK => ?_)
            go_simp
            go_at_call 9; have hof := replyOf_any HQD.out HYL.out; rw [← HUS.out] at hof; refine hof.mono ?_; clear hof; rintro e w16 ⟨t16, rfl, hq16, hb16⟩
            refine hK.out _ _ (hb16) ?_
            clear hK K
            try simp only [Act.put, List.setIfInBounds_toArray, List.set_cons_zero, List.set_cons_succ]
            refine reg_call 10 (by kernel_rfl) (by rfl) (fun K hK => ?_)
            go_simp
            go_at_call 12; have hsm := same9_any hq16 (goesRf.after HFD.out hb16); rw [← HZS.out] at hsm; refine hsm.mono ?_; clear hsm; rintro e w17 ⟨rfl, hb17⟩
            refine hK.out _ _ (hb17) ?_
            clear hK K
            try simp only [Act.put, List.setIfInBounds_toArray, List.set_cons_zero, List.set_cons_succ]
            first | (refine reg_skip 11 (by rfl) (by kernel_rfl) (by kernel_rfl) (by kernel_rfl) (by exact fun _ _ _ h => h) (by rfl) ?_) | (refine reg_take 11 (v := ?_) (by rfl) (by kernel_rfl) (by kernel_rfl) (by kernel_rfl) (by exact fun _ _ _ h => h) (by rfl) ?_ ?_; rotate_left; focus (intro w hSw; go_simp; try with_reducible rfl))
            simp only [Act.put, List.setIfInBounds_toArray, List.set_cons_zero, List.set_cons_succ]
            first | (refine reg_skip 12 (by rfl) (by kernel_rfl) (by kernel_rfl) (by kernel_rfl) (by exact fun _ _ _ h => h) (by rfl) ?_) | (refine reg_take 12 (v := ?_) (by rfl) (by kernel_rfl) (by kernel_rfl) (by kernel_rfl) (by exact fun _ _ _ h => h) (by rfl) ?_ ?_; rotate_left; focus (intro w hSw; go_simp; try with_reducible rfl))
            simp only [Act.put, List.setIfInBounds_toArray, List.set_cons_zero, List.set_cons_succ]
            (refine reg_take 13 (v := ?_) (by rfl) (by kernel_rfl) (by kernel_rfl) (by kernel_rfl) (by exact fun _ _ _ h => h) (by rfl) ?_ ?_; rotate_left; focus (intro w hSw; go_simp; try with_reducible rfl))
            simp only [Act.put, List.setIfInBounds_toArray, List.set_cons_zero, List.set_cons_succ]
            refine wpAnyH_done (by kernel_rfl) ?_ _
        rotate_left 2
        focus
          first | (refine step_loadW HXB.out (by rfl) 54 _ (by rfl) (by rfl) _ Tryz.underlying54 rfl (by rw [hzl]; kernel_rfl) ?_) | (refine step_loadW (goesBx.after HXB.out hb16) (by rfl) 54 _ (by rfl) (by rfl) _ Tryz.underlying54 rfl (by rw [hzl]; kernel_rfl) ?_)
          refine hK.out _ _ ((by unfold Aft; exact Below.refl _ _)) ?_
          clear hK K
          try simp only [Act.put, List.setIfInBounds_toArray, List.set_cons_zero, List.set_cons_succ]
          refine reg_call 7 (by kernel_rfl) (by rfl) (fun K hK => ?_)
          refine step_loadW HXA.out (by rfl) 40 _ (by rfl) (by rfl) _ Tryz.underlying40 rfl (by rw [hul]; kernel_rfl) ?_
          refine hK.out _ _ ((by unfold Aft; exact Below.refl _ _)) ?_
          clear hK K
          try simp only [Act.put, List.setIfInBounds_toArray, List.set_cons_zero, List.set_cons_succ]
          refine reg_call 8 (by kernel_rfl) (by rfl) (fun K hK => ?_)
          go_simp
          go_at_call 9; have hof := replyOf_any HQD.out HYL.out; rw [← HUS.out] at hof; refine hof.mono ?_; clear hof; rintro e w16 ⟨t16, rfl, hq16, hb16⟩
          refine hK.out _ _ (hb16) ?_
          clear hK K
          try simp only [Act.put, List.setIfInBounds_toArray, List.set_cons_zero, List.set_cons_succ]
          refine reg_call 10 (by kernel_rfl) (by rfl) (fun K hK => ?_)
          go_simp
          go_at_call 12; have hsm := same9_any hq16 (goesRf.after HFD.out hb16); rw [← HZS.out] at hsm; refine hsm.mono ?_; clear hsm; rintro e w17 ⟨rfl, hb17⟩
          refine hK.out _ _ (hb17) ?_
          clear hK K
          try simp only [Act.put, List.setIfInBounds_toArray, List.set_cons_zero, List.set_cons_succ]
          first | (refine reg_skip 11 (by rfl) (by kernel_rfl) (by kernel_rfl) (by kernel_rfl) (by exact fun _ _ _ h => h) (by rfl) ?_) | (refine reg_take 11 (v := ?_) (by rfl) (by kernel_rfl) (by kernel_rfl) (by kernel_rfl) (by exact fun _ _ _ h => h) (by rfl) ?_ ?_; rotate_left; focus (intro w hSw; go_simp; try with_reducible rfl))
          simp only [Act.put, List.setIfInBounds_toArray, List.set_cons_zero, List.set_cons_succ]
          first | (refine reg_skip 12 (by rfl) (by kernel_rfl) (by kernel_rfl) (by kernel_rfl) (by exact fun _ _ _ h => h) (by rfl) ?_) | (refine reg_take 12 (v := ?_) (by rfl) (by kernel_rfl) (by kernel_rfl) (by kernel_rfl) (by exact fun _ _ _ h => h) (by rfl) ?_ ?_; rotate_left; focus (intro w hSw; go_simp; try with_reducible rfl))
          simp only [Act.put, List.setIfInBounds_toArray, List.set_cons_zero, List.set_cons_succ]
          (refine reg_take 13 (v := ?_) (by rfl) (by kernel_rfl) (by kernel_rfl) (by kernel_rfl) (by exact fun _ _ _ h => h) (by rfl) ?_ ?_; rotate_left; focus (intro w hSw; go_simp; try with_reducible rfl))
          simp only [Act.put, List.setIfInBounds_toArray, List.set_cons_zero, List.set_cons_succ]
          refine wpAnyH_done (by kernel_rfl) ?_ _
        all_goals
          have HB17 : Hid (Below w7.heap.size w7 w17) := Lib.hid (HB715.out.trans (((Below.refl w15.heap.size w15).drew.trans (hb16.trans (hb17.mono hb16.size))).mono hz15))
          clear hb16 hb17
          go_wp2_with fail
          refine ⟨⟨k + 1, by omega, by go_num, HB17⟩, by simp [intOf]; omega⟩
    · obtain rfl : k = 2 := by omega
      go_wp2_with fail
      go_ret
      exact ⟨rfl, HB8.out⟩
theorem replyEvents_all {S : Nat → Prop} {w : World} {n : Nte} {c : Chg} {ad sc cg : Tr} (h1 : Sl S w ad.a ad.n ad.c n.addr.addr ∧ Arr 1 strP S w sc.a sc.n sc.c n.schema.args ∧ strOk n.kind ∧ strOk n.what ∧ n.addr.port < 4294967296 ∧ n.addr.addr.length ≤ 140737488351232 ∧ ChgB n.schema ∧ n.schema.args.length ≤ 140737488351232) (h2 : Arr 1 strP S w cg.a cg.n cg.c c.args ∧ ChgB c ∧ c.args.length ≤ 140737488351232) :
    Calls Tryz.prog 4 #[.agg (nteV n ad.v sc.v).toArray, .agg (chgV c cg.v).toArray] w fun e w' => e = .returned (.bool true) ∧ Below w.heap.size w w' :=
  replyEvents_any (S := S) ⟨Arr.nil, Sl.nil, Arr.nil, Sl.nil, h1.1, h1.2.1, Arr.nil, Sl.nil, Sl.nil⟩ ⟨Arr.nil, Sl.nil, Arr.nil, Sl.nil, Sl.nil, Arr.nil, h2.1, Sl.nil, Sl.nil⟩
    { rpA_of (op := 12) (by decide) with kind := h1.2.2.1, what := h1.2.2.2.1, port := h1.2.2.2.2.1, addr := Nat.le_trans h1.2.2.2.2.2.1 (by decide), sch := h1.2.2.2.2.2.2.1, nsc := Nat.le_trans h1.2.2.2.2.2.2.2 (by decide) }
    { rpA_of (op := 8) (by decide) with rkind := (by decide : (5 : Nat) < 4294967296), chg := h2.2.1, ncg := Nat.le_trans h2.2.2 (by decide) }
end Go.Proofs.Sb
