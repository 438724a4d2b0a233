/- Walk over signalboxref08.getRun, in a batch. Conditions: lengths up to 2^47. (written by gen_rqref5.py) -/
import Derived.Test.YtdgmkmadlnmhbaaRrt
set_option linter.unusedVariables false
set_option linter.unusedSimpArgs false
namespace Go.Proofs.Sb
open Go.RowKit _root_.Sb
set_option maxHeartbeats 16000000 in
set_option maxRecDepth 100000 in
theorem rgetRun8_true {S : Nat → Prop} {A : Option Addr} {m c a : Nat} {bs : B} {w : World} (hs : Sl S w A m c bs) (hm : m ≤ 140737488355328) (ha : a ≤ m) (r : Res Par) (hr : getRun true (bs.drop a) = r) :
    Calls Try.prog 90 #[.slice A m c, .int .i64 (a : Int), .bool true] w fun e w' => ∃ A1 n1 c1 A2 n2 c2, ∃ q : Nat, e = .returned (.tuple #[.agg (runV (rval Par.none r) A1 n1 c1 A2 n2 c2).toArray, .int .i64 (q : Int), .int .i64 (rerr r)]) ∧ RunR (fun b => w.heap.size ≤ b) w' A1 n1 c1 A2 n2 c2 (rval Par.none r).values (rval Par.none r).names ∧ AtR bs q r ∧ Below w.heap.size w w' := by
  have HS := Lib.hid hs.lt
  have hlb := Lib.hid hs.len
  have hcp := hs.cap
  have hcm := hs.capMax
  clear hs
  have HR := Lib.hid hr; clear hr
  obtain ⟨rc, hrc⟩ : ∃ rc, getCons (bs.drop a) = rc := ⟨_, rfl⟩
  have HRC := Lib.hid hrc; clear hrc
  go_enter Try.func90, Try.ntmps90
  go_upto_region 2 with fail
  obtain ⟨w2, hw2⟩ : ∃ w2, w2 = (w.alloc (.cells #[.int .u16 0, .slice none 0 0, .slice none 0 0, .bool false, .bool false, .int .i32 0, .bool false, .int .i64 0, .string ⟨#[]⟩, .bool false, .int .u16 0, .bool false, .int .i64 0] 45)).alloc (.cells #[.int .u16 0, .slice none 0 0, .slice none 0 0, .bool false, .bool false, .int .i32 0, .bool false, .int .i64 0, .string ⟨#[]⟩, .bool false, .int .u16 0, .bool false, .int .i64 0] 45) := ⟨_, rfl⟩
  rw [← hw2]
  have hB2 : Below w.heap.size w w2 := by rw [hw2]; exact ((Below.refl _ _).alloc (Nat.le_refl _) _).alloc (by simp) _
  have HXR : Hid (Bx (fun b => b = w.heap.size) w2 w.heap.size zRun) := Lib.hid (by
    rw [hw2]
    exact goesBx.after (Bx.alloc w #[.int .u16 0, .slice none 0 0, .slice none 0 0, .bool false, .bool false, .int .i32 0, .bool false, .int .i64 0, .string ⟨#[]⟩, .bool false, .int .u16 0, .bool false, .int .i64 0] 45 (S := fun b => b = w.heap.size) rfl rfl) ((Below.refl _ _).alloc (Nat.le_refl _) _))
  have HXP : Hid (Bx (fun b => b = w.heap.size + 1) w2 (w.heap.size + 1) [.int .u16 0, .slice none 0 0, .slice none 0 0, .bool false, .bool false, .int .i32 0, .bool false, .int .i64 0, .string ⟨#[]⟩, .bool false, .int .u16 0, .bool false, .int .i64 0]) := Lib.hid (by
    rw [hw2]
    exact Bx.alloc (w.alloc _) #[.int .u16 0, .slice none 0 0, .slice none 0 0, .bool false, .bool false, .int .i32 0, .bool false, .int .i64 0, .string ⟨#[]⟩, .bool false, .int .u16 0, .bool false, .int .i64 0] 45 (S := fun b => b = w.heap.size + 1) (by simp) (by simp))
  have HB2 := Lib.hid hB2; clear hB2 hw2
  have hz2 : w.heap.size + 1 < w2.heap.size := HXP.out.lt
  go_wp2_with fail
  refine (rgetCons_any (HS.out.fin HB2.out) ha rc HRC.out).mono ?_
  rintro e w3 ⟨q0, rfl, hq0, rfl⟩
  have HQ0 := Lib.hid hq0; clear hq0
  cases rc with
  | error e =>
    have hne : (e != 0) = true := by simpa using nzCons _ _ HRC.out
    have HE : Hid (r = .error e) := Lib.hid (by rw [← HR.out]; exact bindR_err HRC.out)
    simp only [rval_error, rerr_error]
    go_wp2_with (first | (refine wpList_built (by rfl) 45 _ (by rfl) #[.int .u16 0, .slice none 0 0, .slice none 0 0, .bool false, .bool false, .int .i32 0, .bool false, .int .i64 0, .string ⟨#[]⟩, .bool false, .int .u16 0, .bool false, .int .i64 0] (by kernel_rfl) ?_) | (refine wpList_storeB (HXR.out) (by rfl) 45 _ _ (by rfl) 0 zRun (by rfl) (by rfl) (by kernel_rfl) (by show 0 + 13 ≤ 13; decide) (by rfl) ?_; intro wz hxz hgz; have HXZ : Hid (Bx (fun b => b = w.heap.size) wz w.heap.size zRun) := Lib.hid hxz; have HBZ := Lib.hid (Below.grown1 (HB2.out) hgz (HB2.out).size (Nat.le_refl _)); clear hxz hgz))
    refine bodyPost_ret (results_box3 (vs := zRun) rfl HXZ.out (by rfl) (by rfl) (by rfl) _ Try.underlying45 rfl (by kernel_rfl)) rfl ?_
    rw [HE.out]
    exact ⟨none, 0, 0, none, 0, 0, 0, rfl, ⟨Arr.nil, Arr.nil⟩, AtR.err, HBZ.out⟩
  | ok p =>
    obtain ⟨cs, b1⟩ := p
    have hcs := cons_lt HRC.out
    have hq0m : q0 ≤ m := by have := HQ0.out.le; have := hlb.out; omega
    have HD0 := Lib.hid HQ0.out.drop
    clear HQ0
    have HR1 : Hid (r = bindR (getN 1 b1) fun f b => if flagsOk true f = false then .error 21 else bindR (valsR f b) fun l b => bindR (optR (bitB f 2) 0 getNum b) fun pg b => bindR (optR (bitB f 3) Val.none getValue b) fun sv b => bindR (optR (bitB f 4) 0 getCons b) fun sr b => bindR (optR (bitB f 5) 0 getI8 b) fun tm b => .ok (parOf cs f l pg sv sr tm, b)) := Lib.hid (by rw [← HR.out]; exact bindR_ok HRC.out)
    simp only [rval_ok, rerr_ok]
    obtain ⟨rx, hrx⟩ : ∃ z, getN 1 b1 = z := ⟨_, rfl⟩
    have HRX := Lib.hid hrx; clear hrx
    have k0 := HXP.out.c 0 _ rfl
    have f0 := HXP.out.fr 0
    go_wp2_with fail
    have HXP3 : Hid (Bx (fun b => b = w.heap.size + 1) (w2.setCell ⟨w.heap.size + 1, 0, none⟩ (.int .u16 (cs : Int))) (w.heap.size + 1) [.int .u16 (cs : Int), .slice none 0 0, .slice none 0 0, .bool false, .bool false, .int .i32 0, .bool false, .int .i64 0, .string ⟨#[]⟩, .bool false, .int .u16 0, .bool false, .int .i64 0]) := Lib.hid (HXP.out.put 0 _ (by show 0 < 13; decide))
    have HFS : Hid (Fr (fun b => b = w.heap.size + 1) w2 (w2.setCell ⟨w.heap.size + 1, 0, none⟩ (.int .u16 (cs : Int)))) := Lib.hid (HXP.out.frPut 0 _)
    obtain ⟨w3, hw3⟩ : ∃ w3, w3 = w2.setCell ⟨w.heap.size + 1, 0, none⟩ (.int .u16 (cs : Int)) := ⟨_, rfl⟩
    rw [← hw3] at HXP3 HFS ⊢
    clear hw3 k0 f0
    have HXR3 : Hid (Bx (fun b => b = w.heap.size) w3 w.heap.size zRun) := Lib.hid (goesBx.keep HXR.out HFS.out.size fun b hb hlt => HFS.out.block b hlt (by rw [hb]; show ¬ w.heap.size = w.heap.size + 1; omega))
    have HB3 : Hid (Below w.heap.size w w3) := Lib.hid (HB2.out.trans (HFS.out.below HB2.out.size fun b hb e => by have e : b = w.heap.size + 1 := e; omega))
    have hz3 : w.heap.size + 1 < w3.heap.size := HXP3.out.lt
    clear HXP HFS HXR HB2 hz2
    refine (rget_any (n := 1) (HS.out.fin HB3.out) hq0m (by decide) (by decide) rx (by rw [HD0.out]; exact HRX.out)).mono ?_
    rintro e w4 ⟨q1, rfl, hq1, rfl⟩
    have HQ1 := Lib.hid hq1; clear hq1
    cases rx with
    | error e =>
      have hne : (e != 0) = true := by rw [getN_err HRX.out]; rfl
      have HE : Hid (r = .error e) := Lib.hid (by rw [HR1.out]; exact bindR_err HRX.out)
      simp only [rval_error, rerr_error]
      go_wp2_with (first | (refine wpList_built (by rfl) 45 _ (by rfl) #[.int .u16 0, .slice none 0 0, .slice none 0 0, .bool false, .bool false, .int .i32 0, .bool false, .int .i64 0, .string ⟨#[]⟩, .bool false, .int .u16 0, .bool false, .int .i64 0] (by kernel_rfl) ?_) | (refine wpList_storeB (HXR3.out) (by rfl) 45 _ _ (by rfl) 0 zRun (by rfl) (by rfl) (by kernel_rfl) (by show 0 + 13 ≤ 13; decide) (by rfl) ?_; intro wz hxz hgz; have HXZ : Hid (Bx (fun b => b = w.heap.size) wz w.heap.size zRun) := Lib.hid hxz; have HBZ := Lib.hid (Below.grown1 (HB3.out) hgz (HB3.out).size (Nat.le_refl _)); clear hxz hgz))
      refine bodyPost_ret (results_box3 (vs := zRun) rfl HXZ.out (by rfl) (by rfl) (by rfl) _ Try.underlying45 rfl (by kernel_rfl)) rfl ?_
      rw [HE.out]
      exact ⟨none, 0, 0, none, 0, 0, 0, rfl, ⟨Arr.nil, Arr.nil⟩, AtR.err, HBZ.out⟩
    | ok p =>
      obtain ⟨x, b2⟩ := p
      have hx := (getN_ok HRX.out).2.2.2
      simp only [Nat.reducePow] at hx
      have hq1m : q1 ≤ m := by have := HQ1.out.le; have := hlb.out; omega
      have HD1 := Lib.hid HQ1.out.drop
      clear HQ1
      have HR2 : Hid (r = if flagsOk true x = false then .error 21 else bindR (valsR x b2) fun l b => bindR (optR (bitB x 2) 0 getNum b) fun pg b => bindR (optR (bitB x 3) Val.none getValue b) fun sv b => bindR (optR (bitB x 4) 0 getCons b) fun sr b => bindR (optR (bitB x 5) 0 getI8 b) fun tm b => (.ok (parOf cs x l pg sv sr tm, b) : Res Par)) := Lib.hid (by rw [HR1.out]; exact bindR_ok HRX.out)
      clear HR1
      simp only [rval_ok, rerr_ok]
      by_cases hb1 : 128 ≤ x
      · have HE : Hid (r = .error 21) := Lib.hid (by rw [HR2.out, if_pos (fo_bad1 hb1)])
        clear HR2
        go_wp2_with (first | (refine wpList_built (by rfl) 45 _ (by rfl) #[.int .u16 0, .slice none 0 0, .slice none 0 0, .bool false, .bool false, .int .i32 0, .bool false, .int .i64 0, .string ⟨#[]⟩, .bool false, .int .u16 0, .bool false, .int .i64 0] (by kernel_rfl) ?_) | (refine wpList_storeB (HXR3.out) (by rfl) 45 _ _ (by rfl) 0 zRun (by rfl) (by rfl) (by kernel_rfl) (by show 0 + 13 ≤ 13; decide) (by rfl) ?_; intro wz hxz hgz; have HXZ : Hid (Bx (fun b => b = w.heap.size) wz w.heap.size zRun) := Lib.hid hxz; have HBZ := Lib.hid (Below.grown1 (HB3.out) hgz (HB3.out).size (Nat.le_refl _)); clear hxz hgz))
        refine bodyPost_ret (results_box3 (vs := zRun) rfl HXZ.out (by rfl) (by rfl) (by rfl) _ Try.underlying45 rfl (by kernel_rfl)) rfl ?_
        rw [HE.out]
        exact ⟨none, 0, 0, none, 0, 0, 0, rfl, ⟨Arr.nil, Arr.nil⟩, AtR.err, HBZ.out⟩
      by_cases hb2 : 64 ≤ x ∧ x % 2 = 0
      · have HE : Hid (r = .error 21) := Lib.hid (by rw [HR2.out, if_pos (fo_bad2 hb2.1 (by omega) hb2.2)])
        have hb3 := hb2.1
        have hb4 : x % 2 < 1 := by omega
        clear HR2 hb2
        go_wp2_with (first | (refine wpList_built (by rfl) 45 _ (by rfl) #[.int .u16 0, .slice none 0 0, .slice none 0 0, .bool false, .bool false, .int .i32 0, .bool false, .int .i64 0, .string ⟨#[]⟩, .bool false, .int .u16 0, .bool false, .int .i64 0] (by kernel_rfl) ?_) | (refine wpList_storeB (HXR3.out) (by rfl) 45 _ _ (by rfl) 0 zRun (by rfl) (by rfl) (by kernel_rfl) (by show 0 + 13 ≤ 13; decide) (by rfl) ?_; intro wz hxz hgz; have HXZ : Hid (Bx (fun b => b = w.heap.size) wz w.heap.size zRun) := Lib.hid hxz; have HBZ := Lib.hid (Below.grown1 (HB3.out) hgz (HB3.out).size (Nat.le_refl _)); clear hxz hgz))
        refine bodyPost_ret (results_box3 (vs := zRun) rfl HXZ.out (by rfl) (by rfl) (by rfl) _ Try.underlying45 rfl (by kernel_rfl)) rfl ?_
        rw [HE.out]
        exact ⟨none, 0, 0, none, 0, 0, 0, rfl, ⟨Arr.nil, Arr.nil⟩, AtR.err, HBZ.out⟩
      by_cases hb3 : 0 < x % 16
      · have HE : Hid (r = .error 21) := Lib.hid (by rw [HR2.out, if_pos (fo_bad3 (.inl hb3))])
        have hb5 : x < 64 ∨ x % 2 = 1 := by omega
        clear HR2 hb2
        rcases hb5 with hb5 | hb5
        · clear hb1
          go_wp2_with (first | (refine wpList_built (by rfl) 45 _ (by rfl) #[.int .u16 0, .slice none 0 0, .slice none 0 0, .bool false, .bool false, .int .i32 0, .bool false, .int .i64 0, .string ⟨#[]⟩, .bool false, .int .u16 0, .bool false, .int .i64 0] (by kernel_rfl) ?_) | (refine wpList_storeB (HXR3.out) (by rfl) 45 _ _ (by rfl) 0 zRun (by rfl) (by rfl) (by kernel_rfl) (by show 0 + 13 ≤ 13; decide) (by rfl) ?_; intro wz hxz hgz; have HXZ : Hid (Bx (fun b => b = w.heap.size) wz w.heap.size zRun) := Lib.hid hxz; have HBZ := Lib.hid (Below.grown1 (HB3.out) hgz (HB3.out).size (Nat.le_refl _)); clear hxz hgz))
          refine bodyPost_ret (results_box3 (vs := zRun) rfl HXZ.out (by rfl) (by rfl) (by rfl) _ Try.underlying45 rfl (by kernel_rfl)) rfl ?_
          rw [HE.out]
          exact ⟨none, 0, 0, none, 0, 0, 0, rfl, ⟨Arr.nil, Arr.nil⟩, AtR.err, HBZ.out⟩
        · have hb6 : 1 ≤ x % 2 := by omega
          clear hb5
          by_cases hb8 : 64 ≤ x
          · skip
            go_wp2_with (first | (refine wpList_built (by rfl) 45 _ (by rfl) #[.int .u16 0, .slice none 0 0, .slice none 0 0, .bool false, .bool false, .int .i32 0, .bool false, .int .i64 0, .string ⟨#[]⟩, .bool false, .int .u16 0, .bool false, .int .i64 0] (by kernel_rfl) ?_) | (refine wpList_storeB (HXR3.out) (by rfl) 45 _ _ (by rfl) 0 zRun (by rfl) (by rfl) (by kernel_rfl) (by show 0 + 13 ≤ 13; decide) (by rfl) ?_; intro wz hxz hgz; have HXZ : Hid (Bx (fun b => b = w.heap.size) wz w.heap.size zRun) := Lib.hid hxz; have HBZ := Lib.hid (Below.grown1 (HB3.out) hgz (HB3.out).size (Nat.le_refl _)); clear hxz hgz))
            refine bodyPost_ret (results_box3 (vs := zRun) rfl HXZ.out (by rfl) (by rfl) (by rfl) _ Try.underlying45 rfl (by kernel_rfl)) rfl ?_
            rw [HE.out]
            exact ⟨none, 0, 0, none, 0, 0, 0, rfl, ⟨Arr.nil, Arr.nil⟩, AtR.err, HBZ.out⟩
          · skip
            go_wp2_with (first | (refine wpList_built (by rfl) 45 _ (by rfl) #[.int .u16 0, .slice none 0 0, .slice none 0 0, .bool false, .bool false, .int .i32 0, .bool false, .int .i64 0, .string ⟨#[]⟩, .bool false, .int .u16 0, .bool false, .int .i64 0] (by kernel_rfl) ?_) | (refine wpList_storeB (HXR3.out) (by rfl) 45 _ _ (by rfl) 0 zRun (by rfl) (by rfl) (by kernel_rfl) (by show 0 + 13 ≤ 13; decide) (by rfl) ?_; intro wz hxz hgz; have HXZ : Hid (Bx (fun b => b = w.heap.size) wz w.heap.size zRun) := Lib.hid hxz; have HBZ := Lib.hid (Below.grown1 (HB3.out) hgz (HB3.out).size (Nat.le_refl _)); clear hxz hgz))
            refine bodyPost_ret (results_box3 (vs := zRun) rfl HXZ.out (by rfl) (by rfl) (by rfl) _ Try.underlying45 rfl (by kernel_rfl)) rfl ?_
            rw [HE.out]
            exact ⟨none, 0, 0, none, 0, 0, 0, rfl, ⟨Arr.nil, Arr.nil⟩, AtR.err, HBZ.out⟩
      have hb4 : ¬ 64 ≤ x := by omega
      have HR3 : Hid (r = bindR (valsR x b2) fun l b => bindR (optR (bitB x 2) 0 getNum b) fun pg b => bindR (optR (bitB x 3) Val.none getValue b) fun sv b => bindR (optR (bitB x 4) 0 getCons b) fun sr b => bindR (optR (bitB x 5) 0 getI8 b) fun tm b => (.ok (parOf cs x l pg sv sr tm, b) : Res Par)) := Lib.hid (by rw [HR2.out, fo_good1 (by omega) (by omega)]; rfl)
      clear HR2 hb2
      go_upto_region 9 with fail
      go_cut [62] (fun v wx => v = .bool false ∧ w3 = wx)
      case first =>
        go_wp2_with fail
        go_meet
        exact ⟨congrArg Value.bool (by rw [Bool.eq_false_iff]; first | (simp; done) | (simp; omega)), rfl⟩
      obtain ⟨rfl, rfl⟩ := hcut
      go_upto_if 66 with fail
      go_cut [11] (fun tq wx => ∃ q l b3 A1 n1 c1 A2 n2 c2, tq = .int .i64 ((q : Nat) : Int) ∧ q ≤ m ∧ Hid (bs.drop q = b3) ∧ Hid (valsR x b2 = .ok (l, b3)) ∧ Hid (RunR (fun b => w.heap.size + 1 < b) wx A1 n1 c1 A2 n2 c2 (l.map (·.2)) (nmsV (bitB x 6) l)) ∧ Hid (Bx (fun b => b = w.heap.size + 1) wx (w.heap.size + 1) [.int .u16 (cs : Int), .slice A1 n1 c1, .slice A2 n2 c2, .bool false, .bool false, .int .i32 0, .bool false, .int .i64 0, .string ⟨#[]⟩, .bool false, .int .u16 0, .bool false, .int .i64 0]) ∧ Hid (Bx (fun b => b = w.heap.size) wx w.heap.size zRun) ∧ Hid (Below w.heap.size w wx))
      case first =>
        have k1 := HXP3.out.c 1 _ rfl
        have k2 := HXP3.out.c 2 _ rfl
        by_cases hv : 1 ≤ x % 2
        · have HV : Hid (bitB x 0 = true) := Lib.hid (bit_t (by simp; omega))
          exact absurd hv (by omega)
        · have HV : Hid (bitB x 0 = false) := Lib.hid (bit_f (by simp; omega))
          have HVR : Hid (valsR x b2 = .ok ([], b2)) := Lib.hid (by unfold valsR; rw [optR_f HV.out])
          go_wp2_with fail
          go_meet
          exact ⟨q1, [], b2, none, 0, 0, none, 0, 0, rfl, hq1m, HD1, HVR, Lib.hid ⟨Arr.nil, by have : nmsV (bitB x 6) [] = [] := by unfold nmsV; split <;> rfl
                                                                                               rw [this]; exact Arr.nil⟩, HXP3, HXR3, HB3⟩
      obtain ⟨q, l, b3, A1, n1, c1, A2, n2, c2, rfl, hqm, HD, HVR, HRR, HX, HXR, HB⟩ := hcut
      obtain ⟨w5, hwo⟩ : ∃ wo, wo = wc := ⟨_, rfl⟩
      subst hwo
      have HR4 : Hid (r = bindR (optR (bitB x 2) 0 getNum b3) fun pg b => bindR (optR (bitB x 3) Val.none getValue b) fun sv b => bindR (optR (bitB x 4) 0 getCons b) fun sr b => bindR (optR (bitB x 5) 0 getI8 b) fun tm b => (.ok (parOf cs x l pg sv sr tm, b) : Res Par)) := Lib.hid (by rw [HR3.out]; exact bindR_ok HVR.out)
      have hz5 : w.heap.size + 1 < w5.heap.size := HX.out.lt
      clear HR3 HD1 HXP3 HXR3 HB3 hz3 hq1m HVR
      go_upto_region 17 with fail
      go_cut [11] (fun tq wx => tq = .int .i64 ((q : Nat) : Int) ∧ Hid (Fr (fun b => b = w.heap.size + 1) w5 wx) ∧ Hid (Bx (fun b => b = w.heap.size + 1) wx (w.heap.size + 1) [.int .u16 (cs : Int), .slice A1 n1 c1, .slice A2 n2 c2, .bool (bitB x 1), .bool false, .int .i32 0, .bool false, .int .i64 0, .string ⟨#[]⟩, .bool false, .int .u16 0, .bool false, .int .i64 0]))
      case first =>
        have k3 := HX.out.c 3 _ rfl
        have f3 := HX.out.fr 3
        go_wp2_with fail
        go_meet
        exact ⟨rfl, Lib.hid (HX.out.frPut 3 _), Lib.hid (by rw [← bitI x]; exact HX.out.put 3 _ (by show 3 < 13; decide))⟩
      obtain ⟨rfl, HF, HX3⟩ := hcut
      obtain ⟨w6, hwo⟩ : ∃ wo, wo = wc := ⟨_, rfl⟩
      subst hwo
      have HBl := Lib.hid (HB.out.trans (HF.out.below HB.out.size fun b hb e => by have e : b = w.heap.size + 1 := e; omega))
      have HXRl := Lib.hid (goesBx.keep HXR.out HF.out.size fun b hb hlt => HF.out.block b hlt (by rw [hb]; show ¬ w.heap.size = w.heap.size + 1; omega))
      have hzl : w.heap.size + 1 < w6.heap.size := HX3.out.lt
      go_upto_if 96 with fail
      go_cut [11] (fun tq wx => ∃ q pg b4, tq = .int .i64 ((q : Nat) : Int) ∧ q ≤ m ∧ Hid (bs.drop q = b4) ∧ Hid (optR (bitB x 2) 0 getNum b3 = .ok (pg, b4)) ∧ Hid (Fr (fun b => b = w.heap.size + 1) w5 wx) ∧ Hid (Bx (fun b => b = w.heap.size + 1) wx (w.heap.size + 1) [.int .u16 (cs : Int), .slice A1 n1 c1, .slice A2 n2 c2, .bool (bitB x 1), .bool (bitB x 2), .int .i32 pg, .bool false, .int .i64 0, .string ⟨#[]⟩, .bool false, .int .u16 0, .bool false, .int .i64 0]))
      case first =>
        by_cases hb : 1 ≤ x / 4 % 2
        · exact absurd hb (by omega)
        · have HBI : Hid (bitB x 2 = false) := Lib.hid (bit_f (by simpa using hb))
          go_wp2_with fail
          go_meet
          exact ⟨q, 0, b3, rfl, hqm, HD, Lib.hid (optR_f HBI.out), HF, Lib.hid (by rw [HBI.out]; exact HX3.out)⟩
      obtain ⟨q, pg, b4, rfl, hqm', HD', HOP, HF', HX'⟩ := hcut
      obtain ⟨w7, hwo⟩ : ∃ wo, wo = wc := ⟨_, rfl⟩
      subst hwo
      have HR5 : Hid (r = bindR (optR (bitB x 3) Val.none getValue b4) fun sv b => bindR (optR (bitB x 4) 0 getCons b) fun sr b => bindR (optR (bitB x 5) 0 getI8 b) fun tm b => (.ok (parOf cs x l pg sv sr tm, b) : Res Par)) := Lib.hid (by rw [HR4.out]; exact bindR_ok HOP.out)
      clear HR4 HOP HF HX3 HD hqm HBl HXRl hzl
      have HF := HF'
      have HX4 := HX'
      have HD := HD'
      have hqm := hqm'
      clear HF' HX' HD' hqm'
      have HBl := Lib.hid (HB.out.trans (HF.out.below HB.out.size fun b hb e => by have e : b = w.heap.size + 1 := e; omega))
      have HXRl := Lib.hid (goesBx.keep HXR.out HF.out.size fun b hb hlt => HF.out.block b hlt (by rw [hb]; show ¬ w.heap.size = w.heap.size + 1; omega))
      have hzl : w.heap.size + 1 < w7.heap.size := HX4.out.lt
      go_upto_if 116 with fail
      go_cut [11] (fun tq wx => ∃ q sv b5, tq = .int .i64 ((q : Nat) : Int) ∧ q ≤ m ∧ Hid (bs.drop q = b5) ∧ Hid (optR (bitB x 3) Val.none getValue b4 = .ok (sv, b5)) ∧ Hid (Fr (fun b => b = w.heap.size + 1) w5 wx) ∧ Hid (Bx (fun b => b = w.heap.size + 1) wx (w.heap.size + 1) [.int .u16 (cs : Int), .slice A1 n1 c1, .slice A2 n2 c2, .bool (bitB x 1), .bool (bitB x 2), .int .i32 pg, .bool (bitB x 3), .int .i64 sv.kind, .string (str sv.bytes), .bool false, .int .u16 0, .bool false, .int .i64 0]))
      case first =>
        by_cases hb : 1 ≤ x / 8 % 2
        · exact absurd hb (by omega)
        · have HBI : Hid (bitB x 3 = false) := Lib.hid (bit_f (by simpa using hb))
          go_wp2_with fail
          go_meet
          exact ⟨q, Val.none, b4, rfl, hqm, HD, Lib.hid (optR_f HBI.out), HF, Lib.hid (by rw [HBI.out]; exact HX4.out)⟩
      obtain ⟨q, sv, b5, rfl, hqm', HD', HOP, HF', HX'⟩ := hcut
      obtain ⟨w8, hwo⟩ : ∃ wo, wo = wc := ⟨_, rfl⟩
      subst hwo
      have HR6 : Hid (r = bindR (optR (bitB x 4) 0 getCons b5) fun sr b => bindR (optR (bitB x 5) 0 getI8 b) fun tm b => (.ok (parOf cs x l pg sv sr tm, b) : Res Par)) := Lib.hid (by rw [HR5.out]; exact bindR_ok HOP.out)
      clear HR5 HOP HF HX4 HD hqm HBl HXRl hzl
      have HF := HF'
      have HX5 := HX'
      have HD := HD'
      have hqm := hqm'
      clear HF' HX' HD' hqm'
      have HBl := Lib.hid (HB.out.trans (HF.out.below HB.out.size fun b hb e => by have e : b = w.heap.size + 1 := e; omega))
      have HXRl := Lib.hid (goesBx.keep HXR.out HF.out.size fun b hb hlt => HF.out.block b hlt (by rw [hb]; show ¬ w.heap.size = w.heap.size + 1; omega))
      have hzl : w.heap.size + 1 < w8.heap.size := HX5.out.lt
      go_upto_if 133 with fail
      go_cut [11] (fun tq wx => ∃ q sr b6, tq = .int .i64 ((q : Nat) : Int) ∧ q ≤ m ∧ Hid (bs.drop q = b6) ∧ Hid (optR (bitB x 4) 0 getCons b5 = .ok (sr, b6)) ∧ Hid (Fr (fun b => b = w.heap.size + 1) w5 wx) ∧ Hid (Bx (fun b => b = w.heap.size + 1) wx (w.heap.size + 1) [.int .u16 (cs : Int), .slice A1 n1 c1, .slice A2 n2 c2, .bool (bitB x 1), .bool (bitB x 2), .int .i32 pg, .bool (bitB x 3), .int .i64 sv.kind, .string (str sv.bytes), .bool (bitB x 4), .int .u16 (sr : Int), .bool false, .int .i64 0]))
      case first =>
        by_cases hb : 1 ≤ x / 16 % 2
        · have HBI : Hid (bitB x 4 = true) := Lib.hid (bit_t (by simpa using hb))
          have k1 := HX5.out.c 9 _ rfl
          have f1 := HX5.out.fr 9
          have HX1 : Hid (Bx (fun b => b = w.heap.size + 1) (w8.setCell ⟨w.heap.size + 1, 9, none⟩ (.bool true)) (w.heap.size + 1) [.int .u16 (cs : Int), .slice A1 n1 c1, .slice A2 n2 c2, .bool (bitB x 1), .bool (bitB x 2), .int .i32 pg, .bool (bitB x 3), .int .i64 sv.kind, .string (str sv.bytes), .bool true, .int .u16 0, .bool false, .int .i64 0]) := Lib.hid (HX5.out.put 9 _ (by show 9 < 13; decide))
          have HF1 : Hid (Fr (fun b => b = w.heap.size + 1) w5 (w8.setCell ⟨w.heap.size + 1, 9, none⟩ (.bool true))) := Lib.hid (HF.out.trans (HX5.out.frPut 9 _))
          have HB1 : Hid (Below w.heap.size w (w8.setCell ⟨w.heap.size + 1, 9, none⟩ (.bool true))) := Lib.hid (HB.out.trans (HF1.out.below HB.out.size fun b hb e => by have e : b = w.heap.size + 1 := e; omega))
          have HXR1 := Lib.hid (goesBx.keep HXR.out HF1.out.size fun b hb hlt => HF1.out.block b hlt (by rw [hb]; show ¬ w.heap.size = w.heap.size + 1; omega))
          obtain ⟨rz, hrz⟩ : ∃ z, getCons b5 = z := ⟨_, rfl⟩
          have HRZ := Lib.hid hrz; clear hrz
          go_wp2_with fail
          refine (rgetCons_any (HS.out.fin HB1.out) hqm rz (by rw [HD.out]; exact HRZ.out)).mono ?_
          rintro e wz ⟨qz, rfl, hqz, rfl⟩
          have HQZ := Lib.hid hqz; clear hqz
          cases rz with
          | error e =>
            have hne : (e != 0) = true := by simpa using nzCons _ _ HRZ.out
            have HE : Hid (r = .error e) := Lib.hid (by rw [HR6.out]; exact bindR_err (by rw [optR_t HBI.out]; exact HRZ.out))
            simp only [rval_error, rerr_error]
            have h10 := HX1.out.c 10 _ rfl
            have g10 := HX1.out.fr 10
            have HX2 : Hid (Bx (fun b => b = w.heap.size + 1) ((w8.setCell ⟨w.heap.size + 1, 9, none⟩ (.bool true)).setCell ⟨w.heap.size + 1, 10, none⟩ (.int .u16 (((0 : Nat)) : Int))) (w.heap.size + 1) [.int .u16 (cs : Int), .slice A1 n1 c1, .slice A2 n2 c2, .bool (bitB x 1), .bool (bitB x 2), .int .i32 pg, .bool (bitB x 3), .int .i64 sv.kind, .string (str sv.bytes), .bool true, .int .u16 0, .bool false, .int .i64 0]) := Lib.hid (HX1.out.put 10 _ (by show 10 < 13; decide))
            have HF2 := Lib.hid (HF1.out.trans (HX1.out.frPut 10 (.int .u16 (((0 : Nat)) : Int))))
            have HB2 := Lib.hid (HB.out.trans (HF2.out.below HB.out.size fun b hb e => by have e : b = w.heap.size + 1 := e; omega))
            have HXR2 := Lib.hid (goesBx.keep HXR.out HF2.out.size fun b hb hlt => HF2.out.block b hlt (by rw [hb]; show ¬ w.heap.size = w.heap.size + 1; omega))
            go_upto_region 33 with fail
            go_wp2_with (first | (refine wpList_built (by rfl) 45 _ (by rfl) #[.int .u16 0, .slice none 0 0, .slice none 0 0, .bool false, .bool false, .int .i32 0, .bool false, .int .i64 0, .string ⟨#[]⟩, .bool false, .int .u16 0, .bool false, .int .i64 0] (by kernel_rfl) ?_) | (refine wpList_storeB (HXR2.out) (by rfl) 45 _ _ (by rfl) 0 zRun (by rfl) (by rfl) (by kernel_rfl) (by show 0 + 13 ≤ 13; decide) (by rfl) ?_; intro wz hxz hgz; have HXZ : Hid (Bx (fun b => b = w.heap.size) wz w.heap.size zRun) := Lib.hid hxz; have HBZ := Lib.hid (Below.grown1 (HB2.out) hgz (HB2.out).size (Nat.le_refl _)); clear hxz hgz))
            refine bodyPost_ret (results_box3 (vs := zRun) rfl HXZ.out (by rfl) (by rfl) (by rfl) _ Try.underlying45 rfl (by kernel_rfl)) rfl ?_
            rw [HE.out]
            exact ⟨none, 0, 0, none, 0, 0, 0, rfl, ⟨Arr.nil, Arr.nil⟩, AtR.err, HBZ.out⟩
          | ok p =>
            obtain ⟨y, cn⟩ := p
            simp only [rval_ok, rerr_ok]
            have hqz : qz ≤ m := by have := HQZ.out.le; have := hlb.out; omega
            have HDZ := Lib.hid HQZ.out.drop
            clear HQZ
            have hy := cons_lt HRZ.out
            have h10 := HX1.out.c 10 _ rfl
            have g10 := HX1.out.fr 10
            go_wp2_with fail
            go_meet
            exact ⟨qz, y, cn, rfl, hqz, HDZ, Lib.hid (by rw [optR_t HBI.out]; exact HRZ.out), Lib.hid (HF1.out.trans (HX1.out.frPut 10 _)), Lib.hid (by rw [HBI.out]; exact HX1.out.put 10 _ (by show 10 < 13; decide))⟩
        · have HBI : Hid (bitB x 4 = false) := Lib.hid (bit_f (by simpa using hb))
          go_wp2_with fail
          go_meet
          exact ⟨q, 0, b5, rfl, hqm, HD, Lib.hid (optR_f HBI.out), HF, Lib.hid (by rw [HBI.out]; exact HX5.out)⟩
      obtain ⟨q, sr, b6, rfl, hqm', HD', HOP, HF', HX'⟩ := hcut
      obtain ⟨w9, hwo⟩ : ∃ wo, wo = wc := ⟨_, rfl⟩
      subst hwo
      have HR7 : Hid (r = bindR (optR (bitB x 5) 0 getI8 b6) fun tm b => (.ok (parOf cs x l pg sv sr tm, b) : Res Par)) := Lib.hid (by rw [HR6.out]; exact bindR_ok HOP.out)
      clear HR6 HOP HF HX5 HD hqm HBl HXRl hzl
      have HF := HF'
      have HX6 := HX'
      have HD := HD'
      have hqm := hqm'
      clear HF' HX' HD' hqm'
      have HBl := Lib.hid (HB.out.trans (HF.out.below HB.out.size fun b hb e => by have e : b = w.heap.size + 1 := e; omega))
      have HXRl := Lib.hid (goesBx.keep HXR.out HF.out.size fun b hb hlt => HF.out.block b hlt (by rw [hb]; show ¬ w.heap.size = w.heap.size + 1; omega))
      have hzl : w.heap.size + 1 < w9.heap.size := HX6.out.lt
      go_upto_if 150 with fail
      go_cut [11] (fun tq wx => ∃ q tm b7, tq = .int .i64 ((q : Nat) : Int) ∧ q ≤ m ∧ Hid (bs.drop q = b7) ∧ Hid (optR (bitB x 5) 0 getI8 b6 = .ok (tm, b7)) ∧ Hid (Fr (fun b => b = w.heap.size + 1) w5 wx) ∧ Hid (Bx (fun b => b = w.heap.size + 1) wx (w.heap.size + 1) [.int .u16 (cs : Int), .slice A1 n1 c1, .slice A2 n2 c2, .bool (bitB x 1), .bool (bitB x 2), .int .i32 pg, .bool (bitB x 3), .int .i64 sv.kind, .string (str sv.bytes), .bool (bitB x 4), .int .u16 (sr : Int), .bool (bitB x 5), .int .i64 tm]))
      case first =>
        by_cases hb : 1 ≤ x / 32 % 2
        · have HBI : Hid (bitB x 5 = true) := Lib.hid (bit_t (by simpa using hb))
          have k1 := HX6.out.c 11 _ rfl
          have f1 := HX6.out.fr 11
          have HX1 : Hid (Bx (fun b => b = w.heap.size + 1) (w9.setCell ⟨w.heap.size + 1, 11, none⟩ (.bool true)) (w.heap.size + 1) [.int .u16 (cs : Int), .slice A1 n1 c1, .slice A2 n2 c2, .bool (bitB x 1), .bool (bitB x 2), .int .i32 pg, .bool (bitB x 3), .int .i64 sv.kind, .string (str sv.bytes), .bool (bitB x 4), .int .u16 (sr : Int), .bool true, .int .i64 0]) := Lib.hid (HX6.out.put 11 _ (by show 11 < 13; decide))
          have HF1 : Hid (Fr (fun b => b = w.heap.size + 1) w5 (w9.setCell ⟨w.heap.size + 1, 11, none⟩ (.bool true))) := Lib.hid (HF.out.trans (HX6.out.frPut 11 _))
          have HB1 : Hid (Below w.heap.size w (w9.setCell ⟨w.heap.size + 1, 11, none⟩ (.bool true))) := Lib.hid (HB.out.trans (HF1.out.below HB.out.size fun b hb e => by have e : b = w.heap.size + 1 := e; omega))
          have HXR1 := Lib.hid (goesBx.keep HXR.out HF1.out.size fun b hb hlt => HF1.out.block b hlt (by rw [hb]; show ¬ w.heap.size = w.heap.size + 1; omega))
          obtain ⟨rz, hrz⟩ : ∃ z, getN 8 b6 = z := ⟨_, rfl⟩
          have HRZ := Lib.hid hrz; clear hrz
          go_wp2_with fail
          refine (rget_any (n := 8) (HS.out.fin HB1.out) hqm (by decide) (by decide) rz (by rw [HD.out]; exact HRZ.out)).mono ?_
          rintro e wz ⟨qz, rfl, hqz, rfl⟩
          have HQZ := Lib.hid hqz; clear hqz
          cases rz with
          | error e =>
            have hne : (e != 0) = true := by rw [getN_err HRZ.out]; rfl
            have HE : Hid (r = .error e) := Lib.hid (by rw [HR7.out]; exact bindR_err (by rw [optR_t HBI.out]; unfold getI8; exact bindR_err HRZ.out))
            simp only [rval_error, rerr_error]
            go_wp2_with (first | (refine wpList_built (by rfl) 45 _ (by rfl) #[.int .u16 0, .slice none 0 0, .slice none 0 0, .bool false, .bool false, .int .i32 0, .bool false, .int .i64 0, .string ⟨#[]⟩, .bool false, .int .u16 0, .bool false, .int .i64 0] (by kernel_rfl) ?_) | (refine wpList_storeB (HXR1.out) (by rfl) 45 _ _ (by rfl) 0 zRun (by rfl) (by rfl) (by kernel_rfl) (by show 0 + 13 ≤ 13; decide) (by rfl) ?_; intro wz hxz hgz; have HXZ : Hid (Bx (fun b => b = w.heap.size) wz w.heap.size zRun) := Lib.hid hxz; have HBZ := Lib.hid (Below.grown1 (HB1.out) hgz (HB1.out).size (Nat.le_refl _)); clear hxz hgz))
            refine bodyPost_ret (results_box3 (vs := zRun) rfl HXZ.out (by rfl) (by rfl) (by rfl) _ Try.underlying45 rfl (by kernel_rfl)) rfl ?_
            rw [HE.out]
            exact ⟨none, 0, 0, none, 0, 0, 0, rfl, ⟨Arr.nil, Arr.nil⟩, AtR.err, HBZ.out⟩
          | ok p =>
            obtain ⟨y, cn⟩ := p
            simp only [rval_ok, rerr_ok]
            have hqz : qz ≤ m := by have := HQZ.out.le; have := hlb.out; omega
            have HDZ := Lib.hid HQZ.out.drop
            clear HQZ
            have hy := (getN_ok HRZ.out).2.2.2
            simp only [Nat.reducePow] at hy
            have hy1 : True := trivial
            go_wp2_with (go_at_call 99; refine (rsigned_any (y : Int) 8 _ (by omega) (by omega) (by omega) (by simp only [Int.toNat_natCast, Nat.reducePow]; omega)).mono ?_; rw [Int.toNat_natCast]; rintro e wy ⟨rfl, hby⟩; have HXy := Lib.hid (goesBx.after HX1.out hby); have HFy := Lib.hid (HF1.out.trans (Fr.of_below hby)); clear hby k1 f1; have hzy : w.heap.size + 1 < wy.heap.size := HXy.out.lt; have h5 := HXy.out.c 12 _ rfl; have g5 := HXy.out.fr 12)
            go_meet
            exact ⟨qz, sgn 8 y, cn, rfl, hqz, HDZ, Lib.hid (by rw [optR_t HBI.out]; unfold getI8; exact bindR_ok HRZ.out), Lib.hid (HFy.out.trans (HXy.out.frPut 12 _)), Lib.hid (by rw [HBI.out]; exact HXy.out.put 12 _ (by show 12 < 13; decide))⟩
        · have HBI : Hid (bitB x 5 = false) := Lib.hid (bit_f (by simpa using hb))
          go_wp2_with fail
          go_meet
          exact ⟨q, 0, b6, rfl, hqm, HD, Lib.hid (optR_f HBI.out), HF, Lib.hid (by rw [HBI.out]; exact HX6.out)⟩
      obtain ⟨q, tm, b7, rfl, hqm', HD', HOP, HF', HX'⟩ := hcut
      obtain ⟨w10, hwo⟩ : ∃ wo, wo = wc := ⟨_, rfl⟩
      subst hwo
      have HR8 : Hid (r = (.ok (parOf cs x l pg sv sr tm, b7) : Res Par)) := Lib.hid (by rw [HR7.out]; exact bindR_ok HOP.out)
      clear HR7 HOP HF HX6 HD hqm HBl HXRl hzl
      have HF := HF'
      have HX7 := HX'
      have HD := HD'
      have hqm := hqm'
      clear HF' HX' HD' hqm'
      have HBl := Lib.hid (HB.out.trans (HF.out.below HB.out.size fun b hb e => by have e : b = w.heap.size + 1 := e; omega))
      have HXRl := Lib.hid (goesBx.keep HXR.out HF.out.size fun b hb hlt => HF.out.block b hlt (by rw [hb]; show ¬ w.heap.size = w.heap.size + 1; omega))
      have HRRl := Lib.hid (goesRunR.keep HRR.out HF.out.size fun b hb hlt => HF.out.block b hlt (by show ¬ b = w.heap.size + 1; omega))
      go_wp2_with (first | (refine wpList_loadB HX7.out (by rfl) 45 _ (by rfl) (by rfl) _ Try.underlying45 rfl (by kernel_rfl) ?_) | (refine wpList_storeB HXRl.out (by rfl) 45 _ _ (by rfl) 0 (runV (parOf cs x l pg sv sr tm) A1 n1 c1 A2 n2 c2) (by rfl) (by rfl) (by kernel_rfl) (by show 0 + 13 ≤ 13; decide) (by rfl) ?_; intro wz hxz hgz; have HXZ : Hid (Bx (fun b => b = w.heap.size) wz w.heap.size (runV (parOf cs x l pg sv sr tm) A1 n1 c1 A2 n2 c2)) := Lib.hid hxz; have HBZ := Lib.hid (Below.grown1 HBl.out hgz HBl.out.size (Nat.le_refl _)); have HRZ := Lib.hid (goesRunR.keep HRRl.out hgz.size fun b hb hlt => hgz.block b hlt (fun e => by injection e with e; have hb : w.heap.size + 1 < b := hb; omega)); clear hxz hgz))
      refine bodyPost_ret (results_box3 (vs := runV (parOf cs x l pg sv sr tm) A1 n1 c1 A2 n2 c2) rfl HXZ.out (by rfl) (by rfl) (by rfl) _ Try.underlying45 rfl (by kernel_rfl)) rfl ?_
      rw [HR8.out]
      exact ⟨A1, n1, c1, A2, n2, c2, q, rfl, goesRunR.mono HRZ.out fun b hb _ => by have hb : w.heap.size + 1 < b := hb; omega, AtR.ok (by have := hlb.out; omega) HD.out, HBZ.out⟩
end Go.Proofs.Sb
