/- The walk over signalboxlaw09.ReplyFaults: true at every input, and nothing that was there has turned. Conditions: lengths up to 2^47. (written by gen_lawyf.py) -/
import Derived.Test.YtfeeeighafflnaaGreatLawYPuts
set_option linter.unusedVariables false
set_option linter.unusedSimpArgs false
namespace Sb
open Go.Proofs.Sb
def fltQ (f : Flt) (cd : Nat) : Rp := { Rp.of 0 with fault := { f with code := cd } }
theorem fltA {f : Flt} {cd : Nat} (hD : FltB f) (hc : cd < 4294967296) (ha : f.args.length ≤ 140737488355328) (hi : f.ident.length ≤ 140737488355328) : RpA 140737488355328 (fltQ f cd) := { rpA_of (op := 0) (by decide) with flt := { hD with code := hc }, fid := hi, nfa := ha }
end Sb
namespace Go.Proofs.Sb
open Go.RowKit _root_.Sb
def fltT (A : Option Addr) (n c : Nat) (A2 : Option Addr) (n2 c2 : Nat) : Trs := { Trs.z with fa := ⟨A, n, c⟩, fi := ⟨A2, n2, c2⟩ }
set_option maxHeartbeats 8000000 in
set_option maxRecDepth 100000 in
theorem replyFaults_any {S : Nat → Prop} {w : World} {f : Flt} {A : Option Addr} {n c : Nat} {A2 : Option Addr} {n2 c2 wh : Nat} (h1 : Arr 1 strP S w A n c f.args) (h2 : Sl S w A2 n2 c2 f.ident) (hD : FltB f) (ha : f.args.length ≤ 140737488355328) (hi : f.ident.length ≤ 140737488355328) (hwh : wh < 256) :
    Calls Tryz.prog 3 #[.agg (fltV f (.slice A n c) (.slice A2 n2 c2)).toArray, .int .u8 ((wh : Nat) : Int)] w fun e w' => e = .returned (.bool true) ∧ Below w.heap.size w w' := by
  have HF0 : Hid (∀ cd, RpR (fun b => S b ∧ b < w.heap.size) w (fltQ f cd) (fltT A n c A2 n2 c2)) := Lib.hid (fun cd => goesRp.mono (S' := fun b => S b ∧ b < w.heap.size) (⟨h1, h2, Arr.nil, Sl.nil, Sl.nil, Arr.nil, Arr.nil, Sl.nil, Sl.nil⟩ : RpR S w (fltQ f cd) (fltT A n c A2 n2 c2)) fun b h1 h2 => ⟨h1, h2⟩)
  have hln := h2.len
  have HLN := Lib.hid hln; clear hln
  have hn2 : n2 ≤ 140737488355328 := by have := HLN.out; omega
  clear h1 h2
  have HD := Lib.hid hD; clear hD
  have HA := Lib.hid ha; have HI := Lib.hid hi; clear ha hi
  have hkk : wh % 12 < 12 := Nat.mod_lt _ (by decide)
  have hmod : ((wh : Nat) : Int) % 12 = ((wh % 12 : Nat) : Int) := by omega
  obtain ⟨k, hk⟩ : ∃ k, wh % 12 = k := ⟨_, rfl⟩
  rw [hk] at hmod hkk
  clear hk
  obtain ⟨vs, hvs⟩ : ∃ vs, vs = fltV f (.slice A n c) (.slice A2 n2 c2) := ⟨_, rfl⟩
  rw [← hvs]
  have HVS := Lib.hid hvs; clear hvs
  go_enter Tryz.func3, Tryz.ntmps3
  go_upto_region 1 with fail
  obtain ⟨w1, hw1⟩ : ∃ w1, w1 = w.alloc (.cells vs.toArray 27) := ⟨_, rfl⟩
  rw [← hw1]
  have hB1 : Below w.heap.size w w1 := by rw [hw1]; exact (Below.refl _ _).alloc (Nat.le_refl _) _
  have HX1 : Hid (Bx (fun b => b = w.heap.size) w1 w.heap.size (fltV f (.slice A n c) (.slice A2 n2 c2))) := Lib.hid (by rw [hw1, HVS.out]; exact Bx.alloc w (fltV f (.slice A n c) (.slice A2 n2 c2)).toArray 27 (X := w.heap.size) (S := fun b => b = w.heap.size) (by simp) (by simp))
  have HB1 := Lib.hid hB1; clear hB1 hw1
  go_wp2_with fail
  refine (awake9 _).mono ?_
  rintro e w2 ⟨rfl, hb2⟩
  have HB2 := Lib.hid (HB1.out.trans (hb2.mono HB1.out.size))
  have HX2 := Lib.hid (goesBx.after HX1.out hb2)
  clear hb2 HX1
  have k0 := HX2.out.c 0 (.int .u32 ((f.code : Nat) : Int)) rfl
  have hlx2 := HX2.out.lt
  go_upto_region 5 with fail
  clear k0
  obtain ⟨w3, hw3⟩ : ∃ w3, w3 = w2.alloc (.cells #[.int .u32 0, .int .u32 4096, .int .u32 4097, .int .u32 4352, .int .u32 4608, .int .u32 4864, .int .u32 5120, .int .u32 5376, .int .u32 9216, .int .u32 9472, .int .u32 8192, .int .u32 ((f.code : Nat) : Int)] 22) := ⟨_, rfl⟩
  rw [← hw3]
  have hb23 : Below w2.heap.size w2 w3 := by rw [hw3]; exact (Below.refl _ _).alloc (Nat.le_refl _) _
  obtain ⟨cd, hcd, hcc⟩ : ∃ cd : Nat, cd < 4294967296 ∧ w3.cell? ⟨w2.heap.size, k, none⟩ = some (.int .u32 ((cd : Nat) : Int)) := by
    have hbx : Bx (fun b => b = w2.heap.size) (w2.alloc (.cells #[.int .u32 0, .int .u32 4096, .int .u32 4097, .int .u32 4352, .int .u32 4608, .int .u32 4864, .int .u32 5120, .int .u32 5376, .int .u32 9216, .int .u32 9472, .int .u32 8192, .int .u32 ((f.code : Nat) : Int)] 22)) w2.heap.size [.int .u32 0, .int .u32 4096, .int .u32 4097, .int .u32 4352, .int .u32 4608, .int .u32 4864, .int .u32 5120, .int .u32 5376, .int .u32 9216, .int .u32 9472, .int .u32 8192, .int .u32 ((f.code : Nat) : Int)] := Bx.alloc w2 #[.int .u32 0, .int .u32 4096, .int .u32 4097, .int .u32 4352, .int .u32 4608, .int .u32 4864, .int .u32 5120, .int .u32 5376, .int .u32 9216, .int .u32 9472, .int .u32 8192, .int .u32 ((f.code : Nat) : Int)] 22 (X := w2.heap.size) (S := fun b => b = w2.heap.size) (by simp) (by simp)
    rw [← hw3] at hbx
    have hfc := HD.out.code
    match k, hkk with
    | 0, _ => exact ⟨0, by decide, hbx.c 0 _ rfl⟩
    | 1, _ => exact ⟨4096, by decide, hbx.c 1 _ rfl⟩
    | 2, _ => exact ⟨4097, by decide, hbx.c 2 _ rfl⟩
    | 3, _ => exact ⟨4352, by decide, hbx.c 3 _ rfl⟩
    | 4, _ => exact ⟨4608, by decide, hbx.c 4 _ rfl⟩
    | 5, _ => exact ⟨4864, by decide, hbx.c 5 _ rfl⟩
    | 6, _ => exact ⟨5120, by decide, hbx.c 6 _ rfl⟩
    | 7, _ => exact ⟨5376, by decide, hbx.c 7 _ rfl⟩
    | 8, _ => exact ⟨9216, by decide, hbx.c 8 _ rfl⟩
    | 9, _ => exact ⟨9472, by decide, hbx.c 9 _ rfl⟩
    | 10, _ => exact ⟨8192, by decide, hbx.c 10 _ rfl⟩
    | 11, _ => exact ⟨f.code, hfc, hbx.c 11 _ rfl⟩
  have HCD := Lib.hid hcd; clear hcd
  have HX3 := Lib.hid (goesBx.after HX2.out hb23)
  have HB3 := Lib.hid (HB2.out.trans (hb23.mono HB2.out.size))
  have hl3 : w2.heap.size < w3.heap.size := by rw [hw3, World.size_alloc]; omega
  have hlx3 := HX3.out.lt
  clear hw3 hb23
  have k0 := HX3.out.c 0 (.int .u32 ((f.code : Nat) : Int)) rfl
  have f0 := HX3.out.fr 0
  have HX4 : Hid (Bx (fun b => b = w.heap.size) (w3.setCell ⟨w.heap.size, 0, none⟩ (.int .u32 ((cd : Nat) : Int))) w.heap.size (fltV { f with code := cd } (.slice A n c) (.slice A2 n2 c2))) := Lib.hid (HX3.out.put 0 (.int .u32 ((cd : Nat) : Int)) (by show 0 < 12; decide))
  have HB4 : Hid (Below w.heap.size w (w3.setCell ⟨w.heap.size, 0, none⟩ (.int .u32 ((cd : Nat) : Int)))) := Lib.hid (HB3.out.setCell (Nat.le_refl _) _)
  go_upto_region 6 with fail
  obtain ⟨w4, hw4⟩ : ∃ w4, w4 = w3.setCell ⟨w.heap.size, 0, none⟩ (.int .u32 ((cd : Nat) : Int)) := ⟨_, rfl⟩
  rw [← hw4] at HX4 HB4 ⊢
  clear hw4 k0 f0 hcc hmod hkk HX3
  have hlx4 := HX4.out.lt
  go_upto_region 7 with (first | (refine wpList_loadB HX4.out (by rfl) 27 _ (by rfl) (by rfl) _ Tryz.underlying27 rfl (by kernel_rfl) ?_) | (refine wpList_built (by rfl) 40 _ (by rfl) (rpT (fltQ f cd) (fltT A n c A2 n2 c2)).toArray (by kernel_rfl) ?_) | (refine wpList_store_newB (by rfl) 40 _ _ (by rfl) _ _ _ _ (by rfl) (by rfl) (by simp) (by rfl) (by kernel_rfl) (by rfl) (by rfl) ?_; intro w5 hb5 hz5 hx5; have HB5 := Lib.hid (HB4.out.trans (hb5.mono HB4.out.size)); have HX5 := Lib.hid (goesBx.after HX4.out hb5); have HY5 : Hid (Bx (fun b => b = w4.heap.size) w5 w4.heap.size (rpT (fltQ f cd) (fltT A n c A2 n2 c2))) := Lib.hid hx5; clear hb5 hz5 hx5))
  have HRA := Lib.hid (fltA HD.out HCD.out HA.out HI.out)
  have HT0 : Hid ((fltQ f cd).token.bytes.length ≤ 1048576) := Lib.hid (Nat.zero_le _)
  have HP := Lib.hid (HF0.out cd)
  obtain ⟨x, hx⟩ : ∃ x, x = fltQ f cd := ⟨_, rfl⟩
  have hxf : x.fault.code = cd ∧ x.fault.text = f.text := by rw [hx]; exact ⟨rfl, rfl⟩
  have hxo : x.opcode = 0 := by rw [hx]; rfl
  rw [← hx] at HRA HP HY5 HT0
  have HXF := Lib.hid hxf; have HXO := Lib.hid hxo
  clear hx hxf hxo
  obtain ⟨t, ht⟩ : ∃ t, t = fltT A n c A2 n2 c2 := ⟨_, rfl⟩
  rw [← ht] at HP HY5
  clear ht
  have hly5 := HY5.out.lt
  have hlx5 := HX5.out.lt
  go_wp2_with (first | (refine wpList_loadB HY5.out (by rfl) 40 _ (by rfl) (by rfl) _ Tryz.underlying40 rfl (by kernel_rfl) ?_))
  refine (slight9_any (x := x) (t := t) (goesRp.after HP.out HB5.out) HRA.out).mono ?_
  rintro e w6 ⟨β, rfl, hβ, hb6⟩
  have HB6 := Lib.hid (HB5.out.trans (hb6.mono HB5.out.size))
  have HX6 := Lib.hid (goesBx.after HX5.out hb6)
  have HY6 := Lib.hid (goesBx.after HY5.out hb6)
  have HBE := Lib.hid hβ
  have x11 := HX6.out.c 11 (.slice A2 n2 c2) rfl
  have hlx6 := HX6.out.lt
  clear hb6 hβ HX5 HY5
  cases β with
  | false =>
    go_wp2_with fail
    go_ret
    exact ⟨rfl, HB6.out⟩
  | true =>
    have HL := Lib.hid (HBE.out rfl); clear HBE
    by_cases h300 : 300 < n2
    · go_wp2_with fail
      go_ret
      exact ⟨rfl, HB6.out⟩
    go_upto_region 10 with fail
    clear x11
    obtain ⟨r, hr⟩ : ∃ r, putRp x = r := ⟨_, rfl⟩
    have HR := Lib.hid hr; clear hr
    go_wp2_with (first | (refine wpList_loadB HY6.out (by rfl) 40 _ (by rfl) (by rfl) _ Tryz.underlying40 rfl (by kernel_rfl) ?_))
    refine (rPut9_any (x := x) (t := t) (goesRp.after HP.out HB6.out) (small_B HRA.out HL.out) (small_Q HL.out) r HR.out).mono ?_
    rintro e w7 ⟨A7, n7, c7, rfl, hs7, hb7⟩
    have HS7 := Lib.hid hs7
    have HB7 := Lib.hid (HB6.out.trans (hb7.mono HB6.out.size))
    have HX7 := Lib.hid (goesBx.after HX6.out hb7)
    have HY7 := Lib.hid (goesBx.after HY6.out hb7)
    clear hs7 hb7 HX6 HY6
    go_wp2_with (first | (refine wpList_loadB HY7.out (by rfl) 40 _ (by rfl) (by rfl) _ Tryz.underlying40 rfl (by kernel_rfl) ?_))
    refine (replyOf_any (x := x) (t := t) (goesRp.after HP.out HB7.out) (rpL_small HRA.out HL.out)).mono ?_
    rintro e w8 ⟨t8, rfl, hrf, hb8⟩
    have HB8 := Lib.hid (HB7.out.trans (hb8.mono HB7.out.size))
    have HS8 := Lib.hid (HS7.out.after hb8)
    have HX8 := Lib.hid (goesBx.after HX7.out hb8)
    have HRF := Lib.hid hrf
    clear hrf hb8 HX7 HY7
    go_wp2_with fail
    refine (rPut9ref_any HRF.out (rfB_small HRA.out HL.out) (wl_small' HRA.out HL.out) r (by rw [putRf_eq, HR.out]) (fun h => putRp_ne (HR.out.trans h) rfl)).mono ?_
    rintro e w9 ⟨A9, n9, c9, rfl, hs9, hb9⟩
    have HB9 := Lib.hid (HB8.out.trans (hb9.mono HB8.out.size))
    have HS9 := Lib.hid (HS8.out.after hb9)
    have HX9 := Lib.hid (goesBx.after HX8.out hb9)
    have cv1 := conv_sl HS9.out
    have cv2 := conv_sl hs9
    clear hs9 hb9 HX8 HS7
    cases r with
    | error e =>
      have hne : (e != 0) = true := by simpa using putRp_ne HR.out
      rw [werr_err]
      go_wp2_with fail
      go_ret
      exact ⟨rfl, HB9.out⟩
    | ok cb =>
      rw [werr_ok]
      have hle := small_len HRA.out HL.out HT0.out
      rw [HR.out] at hle
      have hle2 : cb.length ≤ 2000000000 := hle
      have HS9' : Hid (Sl (fun b => w6.heap.size ≤ b) w9 A7 n7 c7 cb) := HS9
      have hl7 : n7 ≤ 140737488355328 := by have := HS9'.out.len; omega
      obtain ⟨y, hy, hbp⟩ := rp_back (small_B HRA.out HL.out) (by have := HT0.out; unfold val31; omega) HR.out
      have hyf := hbp.flt HXO.out
      rw [HXO.out] at hy
      rw [HXF.out.1, HXF.out.2] at hyf
      have HY := Lib.hid hy; have HYF := Lib.hid hyf
      have HYL : Hid (RpL y) := Lib.hid (rpOf_rpL (r := .ok y) hy)
      clear hy hyf hbp hle hle2 HS9 HS8
      go_wp2_with fail
      refine (rGet9_any (op := 0) HS9'.out hl7 (.ok y) HY.out).mono ?_
      rintro e w10 ⟨t10, rfl, hq10, hb10⟩
      have HB10 := Lib.hid (HB9.out.trans (hb10.mono HB9.out.size))
      have HX10 := Lib.hid (goesBx.after HX9.out hb10)
      have HS10 := Lib.hid (HS9'.out.after hb10)
      have HQ10 : Hid (RpR (fun b => b < w10.heap.size) w10 y t10) := Lib.hid (goesRp.mono (S' := fun b => b < w10.heap.size) hq10 fun b _ h => h)
      rw [show rpOf (.ok y) = y from rfl, show erP (.ok y) = 0 from rfl]
      obtain ⟨us, hus⟩ : ∃ us, us = rpT y t10 := ⟨_, rfl⟩
      have hul : us.length = 34 := by rw [hus]; rfl
      have hone : us.all (·.oneCell') = true := by rw [hus]; rfl
      have hu1 : us[1]? = some (.int .u32 ((cd : Nat) : Int)) := by rw [hus, ← HYF.out.1]; rfl
      have hu2 : us[2]? = some (.string (str f.text)) := by rw [hus, ← HYF.out.2]; rfl
      rw [← hus]
      have HUS := Lib.hid hus
      clear hus hb10 hq10 HX9 HS9'
      go_upto_region 17 with (first | (refine wpList_store_newB (by rfl) 40 _ _ (by rfl) _ _ _ _ (by rfl) (by rfl) (by simp) (by rfl) (by rw [hul]; kernel_rfl) (by rw [hul]; rfl) hone ?_; intro w11 hb11 hz11 hx11; have HB11 := Lib.hid (HB10.out.trans (hb11.mono HB10.out.size)); have HX11 := Lib.hid (goesBx.after HX10.out hb11); have HS11 := Lib.hid (HS10.out.after hb11); have HQ11 := Lib.hid (goesRp.after HQ10.out hb11); have HZ11 : Hid (Bx (fun b => b = w10.heap.size) w11 w10.heap.size us) := Lib.hid hx11; clear hb11 hz11 hx11 HX10 HS10 HQ10))
      have hlz11 := HZ11.out.lt
      go_wp2_with fail
      refine (rGet9ref_any (op := 0) HS11.out hl7 (emap (.ok y)) (by rw [getRf_eq, HY.out])).mono ?_
      rintro e w12 ⟨t12, rfl, hq12, hb12⟩
      have HB12 := Lib.hid (HB11.out.trans (hb12.mono HB11.out.size))
      have HX12 := Lib.hid (goesBx.after HX11.out hb12)
      have HZ12 := Lib.hid (goesBx.after HZ11.out hb12)
      have HQ12 := Lib.hid (goesRp.after HQ11.out hb12)
      rw [emap_val, show rpOf (.ok y) = y from rfl] at hq12
      rw [emap_val, emap_err, show rpOf (.ok y) = y from rfl, show erP (.ok y) = 0 from rfl]
      have HF12 := Lib.hid hq12
      obtain ⟨zs, hzs⟩ : ∃ zs, zs = rfV (rfOf y) t12 := ⟨_, rfl⟩
      have hzl : zs.length = 27 := by rw [hzs]; rfl
      have hzone : zs.all (·.oneCell') = true := by rw [hzs]; rfl
      rw [← hzs]
      have HZS := Lib.hid hzs
      clear hzs hb12 hq12 HX11 HZ11 HS11 HQ11 hone
      go_upto_region 18 with (first | (refine wpList_store_newB (by rfl) 54 _ _ (by rfl) _ _ _ _ (by rfl) (by rfl) (by simp) (by rfl) (by rw [hzl]; kernel_rfl) (by rw [hzl]; rfl) hzone ?_; intro w13 hb13 hz13 hx13; have HB13 := Lib.hid (HB12.out.trans (hb13.mono HB12.out.size)); have HX13 := Lib.hid (goesBx.after HX12.out hb13); have HZ13 := Lib.hid (goesBx.after HZ12.out hb13); have HQ13 := Lib.hid (goesRp.after HQ12.out hb13); have HF13 := Lib.hid (goesRf.after HF12.out hb13); have HV13 : Hid (Bx (fun b => b = w12.heap.size) w13 w12.heap.size zs) := Lib.hid hx13; clear hb13 hz13 hx13))
      have hlv13 := HV13.out.lt
      have hlz13 := HZ13.out.lt
      have hlx13 := HX13.out.lt
      have hdr : Below w13.heap.size w13 w13.drew := (Below.refl _ _).drew
      have HXA := Lib.hid (goesBx.after HZ13.out hdr)
      have HXB := Lib.hid (goesBx.after HV13.out hdr)
      have HXC := Lib.hid (goesBx.after HX13.out hdr)
      have HQD := Lib.hid (goesRp.after HQ13.out hdr)
      have HFD := Lib.hid (goesRf.after HF13.out hdr)
      have hz13 := HB13.out.size
      have hU1 := Lib.hid hu1; have hU2 := Lib.hid hu2
      clear hdr hu1 hu2 hzone
      refine reg_start (by kernel_rfl) ?_
      (refine reg_take 0 (v := ?_) (by rfl) (by kernel_rfl) (by kernel_rfl) (by kernel_rfl) (by exact fun _ _ _ h => h) (by rfl) ?_ ?_; rotate_left; focus (intro w hSw; go_simp; try with_reducible rfl))
      simp only [Act.put, List.setIfInBounds_toArray, List.set_cons_zero, List.set_cons_succ]
      (refine reg_take 1 (v := ?_) (by rfl) (by kernel_rfl) (by kernel_rfl) (by kernel_rfl) (by exact fun _ _ _ h => h) (by rfl) ?_ ?_; rotate_left; focus (intro w hSw; go_simp; try with_reducible rfl))
      simp only [Act.put, List.setIfInBounds_toArray, List.set_cons_zero, List.set_cons_succ]
      (refine reg_take 2 (v := ?_) (by rfl) (by kernel_rfl) (by kernel_rfl) (by kernel_rfl) (by exact fun _ _ _ h => h) (by rfl) ?_ ?_; rotate_left; focus (intro w hSw; go_simp; try with_reducible rfl))
      simp only [Act.put, List.setIfInBounds_toArray, List.set_cons_zero, List.set_cons_succ]
      first | (refine reg_skip 3 (by rfl) (by kernel_rfl) (by kernel_rfl) (by kernel_rfl) (by exact fun _ _ _ h => h) (by rfl) ?_) | (refine reg_take 3 (v := ?_) (by rfl) (by kernel_rfl) (by kernel_rfl) (by kernel_rfl) (by exact fun _ _ _ h => h) (by rfl) ?_ ?_; rotate_left; focus (intro w hSw; go_simp; try with_reducible rfl))
      simp only [Act.put, List.setIfInBounds_toArray, List.set_cons_zero, List.set_cons_succ]
      first | (refine reg_skip 4 (by rfl) (by kernel_rfl) (by kernel_rfl) (by kernel_rfl) (by exact fun _ _ _ h => h) (by rfl) ?_) | (refine reg_take 4 (v := ?_) (by rfl) (by kernel_rfl) (by kernel_rfl) (by kernel_rfl) (by exact fun _ _ _ h => h) (by rfl) ?_ ?_; rotate_left; focus (intro w hSw; go_simp; try with_reducible rfl))
      simp only [Act.put, List.setIfInBounds_toArray, List.set_cons_zero, List.set_cons_succ]
      (refine reg_take 5 (v := ?_) (by rfl) (by kernel_rfl) (by kernel_rfl) (by kernel_rfl) (by exact fun _ _ _ h => h) (by rfl) ?_ ?_; rotate_left; focus (intro w hSw; go_simp; try with_reducible rfl))
      simp only [Act.put, List.setIfInBounds_toArray, List.set_cons_zero, List.set_cons_succ]
      (refine reg_take 6 (v := ?_) (by rfl) (by kernel_rfl) (by kernel_rfl) (by kernel_rfl) (by exact fun _ _ _ h => h) (by rfl) ?_ ?_; rotate_left; focus (intro w hSw; go_simp; try with_reducible rfl))
      simp only [Act.put, List.setIfInBounds_toArray, List.set_cons_zero, List.set_cons_succ]
      refine reg_two 7 9 (by kernel_rfl) (by rfl) (by rfl) (fun K hK => ?_) (fun K hK => ?_)
      focus
        refine step_loadW HXA.out (by rfl) 40 _ (by rfl) (by rfl) _ Tryz.underlying40 rfl (by rw [hul]; kernel_rfl) ?_
        refine hK.out _ _ ((by unfold Aft; exact Below.refl _ _)) ?_
        clear hK K
        try simp only [Act.put, List.setIfInBounds_toArray, List.set_cons_zero, List.set_cons_succ]
        refine reg_two 8 9 (by kernel_rfl) (by rfl) (by rfl) (fun K hK => ?_) (fun K hK => ?_)
        focus
          go_simp
          go_at_call 9; have hof := replyOf_any HQD.out HYL.out; rw [← HUS.out] at hof; refine hof.mono ?_; clear hof; rintro e w15 ⟨t15, rfl, hq15, hb15⟩
          refine hK.out _ _ (hb15) ?_
          clear hK K
          try simp only [Act.put, List.setIfInBounds_toArray, List.set_cons_zero, List.set_cons_succ]
          refine reg_call 9 (by kernel_rfl) (by rfl) (fun K hK => ?_)
          first | (refine step_loadW HXB.out (by rfl) 54 _ (by rfl) (by rfl) _ Tryz.underlying54 rfl (by rw [hzl]; kernel_rfl) ?_) | (refine step_loadW (goesBx.after HXB.out hb15) (by rfl) 54 _ (by rfl) (by rfl) _ Tryz.underlying54 rfl (by rw [hzl]; kernel_rfl) ?_)
          refine hK.out _ _ ((by unfold Aft; exact Below.refl _ _)) ?_
          clear hK K
          try simp only [Act.put, List.setIfInBounds_toArray, List.set_cons_zero, List.set_cons_succ]
          refine reg_call 10 (by kernel_rfl) (by rfl) (fun K hK => ?_)
          go_simp
          go_at_call 12; have hsm := same9_any hq15 (goesRf.after HFD.out hb15); rw [← HZS.out] at hsm; refine hsm.mono ?_; clear hsm; rintro e w16 ⟨rfl, hb16⟩; have k16 := seqB hb15 hb16; have e1 := Aft.each (kcell k16 (HXA.out.c 1 _ hU1.out)); have e2 := Aft.each (kcell k16 (HXA.out.c 2 _ hU2.out)); have e3 := Aft.each (kcell k16 (HXC.out.c 0 (.int .u32 ((cd : Nat) : Int)) rfl)); have e4 := Aft.each (kcell k16 (HXC.out.c 1 (.string (str f.text)) rfl))
          refine hK.out _ _ (hb16) ?_
          clear hK K
          try simp only [Act.put, List.setIfInBounds_toArray, List.set_cons_zero, List.set_cons_succ]
          (refine reg_take 11 (v := ?_) (by rfl) (by kernel_rfl) (by kernel_rfl) (by kernel_rfl) (by exact fun _ _ _ h => h) (by rfl) ?_ ?_; rotate_left; focus (intro w hSw; go_simp; try with_reducible rfl))
          simp only [Act.put, List.setIfInBounds_toArray, List.set_cons_zero, List.set_cons_succ]
          (refine reg_take 12 (v := ?_) (by rfl) (by kernel_rfl) (by kernel_rfl) (by kernel_rfl) (by exact fun _ _ _ h => h) (by rfl) ?_ ?_; rotate_left; focus (intro w hSw; go_simp; try with_reducible rfl))
          simp only [Act.put, List.setIfInBounds_toArray, List.set_cons_zero, List.set_cons_succ]
          first | (refine reg_skip 13 (by rfl) (by kernel_rfl) (by kernel_rfl) (by kernel_rfl) (by exact fun _ _ _ h => h) (by rfl) ?_) | (refine reg_take 13 (v := ?_) (by rfl) (by kernel_rfl) (by kernel_rfl) (by kernel_rfl) (by exact fun _ _ _ h => h) (by rfl) ?_ ?_; rotate_left; focus (intro w hSw; go_simp; try with_reducible rfl))
          simp only [Act.put, List.setIfInBounds_toArray, List.set_cons_zero, List.set_cons_succ]
          first | (refine reg_skip 14 (by rfl) (by kernel_rfl) (by kernel_rfl) (by kernel_rfl) (by exact fun _ _ _ h => h) (by rfl) ?_) | (refine reg_take 14 (v := ?_) (by rfl) (by kernel_rfl) (by kernel_rfl) (by kernel_rfl) (by exact fun _ _ _ h => h) (by rfl) ?_ ?_; rotate_left; focus (intro w hSw; go_simp; try with_reducible rfl))
          simp only [Act.put, List.setIfInBounds_toArray, List.set_cons_zero, List.set_cons_succ]
          first | (refine reg_skip 15 (by rfl) (by kernel_rfl) (by kernel_rfl) (by kernel_rfl) (by exact fun _ _ _ h => h) (by rfl) ?_) | (refine reg_take 15 (v := ?_) (by rfl) (by kernel_rfl) (by kernel_rfl) (by kernel_rfl) (by exact fun _ _ _ h => h) (by rfl) ?_ ?_; rotate_left; focus (intro w hSw; go_simp; try with_reducible rfl))
          simp only [Act.put, List.setIfInBounds_toArray, List.set_cons_zero, List.set_cons_succ]
          first | (refine reg_skip 16 (by rfl) (by kernel_rfl) (by kernel_rfl) (by kernel_rfl) (by exact fun _ _ _ h => h) (by rfl) ?_) | (refine reg_take 16 (v := ?_) (by rfl) (by kernel_rfl) (by kernel_rfl) (by kernel_rfl) (by exact fun _ _ _ h => h) (by rfl) ?_ ?_; rotate_left; focus (intro w hSw; go_simp; try with_reducible rfl))
          simp only [Act.put, List.setIfInBounds_toArray, List.set_cons_zero, List.set_cons_succ]
          first | (refine reg_skip 17 (by rfl) (by kernel_rfl) (by kernel_rfl) (by kernel_rfl) (by exact fun _ _ _ h => h) (by rfl) ?_) | (refine reg_take 17 (v := ?_) (by rfl) (by kernel_rfl) (by kernel_rfl) (by kernel_rfl) (by exact fun _ _ _ h => h) (by rfl) ?_ ?_; rotate_left; focus (intro w hSw; go_simp; try with_reducible rfl))
          simp only [Act.put, List.setIfInBounds_toArray, List.set_cons_zero, List.set_cons_succ]
          first | (refine reg_skip 18 (by rfl) (by kernel_rfl) (by kernel_rfl) (by kernel_rfl) (by exact fun _ _ _ h => h) (by rfl) ?_) | (refine reg_take 18 (v := ?_) (by rfl) (by kernel_rfl) (by kernel_rfl) (by kernel_rfl) (by exact fun _ _ _ h => h) (by rfl) ?_ ?_; rotate_left; focus (intro w hSw; go_simp; try with_reducible rfl))
          simp only [Act.put, List.setIfInBounds_toArray, List.set_cons_zero, List.set_cons_succ]
          (refine reg_take 19 (v := ?_) (by rfl) (by kernel_rfl) (by kernel_rfl) (by kernel_rfl) (by exact fun _ _ _ h => h) (by rfl) ?_ ?_; rotate_left; focus (intro w hSw; go_simp; try with_reducible rfl))
          simp only [Act.put, List.setIfInBounds_toArray, List.set_cons_zero, List.set_cons_succ]
          (refine reg_take 20 (v := ?_) (by rfl) (by kernel_rfl) (by kernel_rfl) (by kernel_rfl) (by exact fun _ _ _ h => h) (by rfl) ?_ ?_; rotate_left; focus (intro w hSw; go_simp; try with_reducible rfl))
          simp only [Act.put, List.setIfInBounds_toArray, List.set_cons_zero, List.set_cons_succ]
          first | (refine reg_skip 21 (by rfl) (by kernel_rfl) (by kernel_rfl) (by kernel_rfl) (by exact fun _ _ _ h => h) (by rfl) ?_) | (refine reg_take 21 (v := ?_) (by rfl) (by kernel_rfl) (by kernel_rfl) (by kernel_rfl) (by exact fun _ _ _ h => h) (by rfl) ?_ ?_; rotate_left; focus (intro w hSw; go_simp; try with_reducible rfl))
          simp only [Act.put, List.setIfInBounds_toArray, List.set_cons_zero, List.set_cons_succ]
          first | (refine reg_skip 22 (by rfl) (by kernel_rfl) (by kernel_rfl) (by kernel_rfl) (by exact fun _ _ _ h => h) (by rfl) ?_) | (refine reg_take 22 (v := ?_) (by rfl) (by kernel_rfl) (by kernel_rfl) (by kernel_rfl) (by exact fun _ _ _ h => h) (by rfl) ?_ ?_; rotate_left; focus (intro w hSw; go_simp; try with_reducible rfl))
          simp only [Act.put, List.setIfInBounds_toArray, List.set_cons_zero, List.set_cons_succ]
          first | (refine reg_skip 23 (by rfl) (by kernel_rfl) (by kernel_rfl) (by kernel_rfl) (by exact fun _ _ _ h => h) (by rfl) ?_) | (refine reg_take 23 (v := ?_) (by rfl) (by kernel_rfl) (by kernel_rfl) (by kernel_rfl) (by exact fun _ _ _ h => h) (by rfl) ?_ ?_; rotate_left; focus (intro w hSw; go_simp; try with_reducible rfl))
          simp only [Act.put, List.setIfInBounds_toArray, List.set_cons_zero, List.set_cons_succ]
          first | (refine reg_skip 24 (by rfl) (by kernel_rfl) (by kernel_rfl) (by kernel_rfl) (by exact fun _ _ _ h => h) (by rfl) ?_) | (refine reg_take 24 (v := ?_) (by rfl) (by kernel_rfl) (by kernel_rfl) (by kernel_rfl) (by exact fun _ _ _ h => h) (by rfl) ?_ ?_; rotate_left; focus (intro w hSw; go_simp; try with_reducible rfl))
          simp only [Act.put, List.setIfInBounds_toArray, List.set_cons_zero, List.set_cons_succ]
          first | (refine reg_skip 25 (by rfl) (by kernel_rfl) (by kernel_rfl) (by kernel_rfl) (by exact fun _ _ _ h => h) (by rfl) ?_) | (refine reg_take 25 (v := ?_) (by rfl) (by kernel_rfl) (by kernel_rfl) (by kernel_rfl) (by exact fun _ _ _ h => h) (by rfl) ?_ ?_; rotate_left; focus (intro w hSw; go_simp; try with_reducible rfl))
          simp only [Act.put, List.setIfInBounds_toArray, List.set_cons_zero, List.set_cons_succ]
          first | (refine reg_skip 26 (by rfl) (by kernel_rfl) (by kernel_rfl) (by kernel_rfl) (by exact fun _ _ _ h => h) (by rfl) ?_) | (refine reg_take 26 (v := ?_) (by rfl) (by kernel_rfl) (by kernel_rfl) (by kernel_rfl) (by exact fun _ _ _ h => h) (by rfl) ?_ ?_; rotate_left; focus (intro w hSw; go_simp; try with_reducible rfl))
          simp only [Act.put, List.setIfInBounds_toArray, List.set_cons_zero, List.set_cons_succ]
          (refine reg_take 27 (v := ?_) (by rfl) (by kernel_rfl) (by kernel_rfl) (by kernel_rfl) (by exact fun _ _ _ h => h) (by rfl) ?_ ?_; rotate_left; focus (intro w hSw; go_simp; try with_reducible rfl))
          simp only [Act.put, List.setIfInBounds_toArray, List.set_cons_zero, List.set_cons_succ]
          (refine reg_take 28 (v := ?_) (by rfl) (by kernel_rfl) (by kernel_rfl) (by kernel_rfl) (by exact fun _ _ _ h => h) (by rfl) ?_ ?_; rotate_left; focus (intro w hSw; go_simp; try with_reducible rfl))
          simp only [Act.put, List.setIfInBounds_toArray, List.set_cons_zero, List.set_cons_succ]
          refine wpAnyH_done (by kernel_rfl) ?_ _
        rotate_left 1
        focus
          first | (refine step_loadW HXB.out (by rfl) 54 _ (by rfl) (by rfl) _ Tryz.underlying54 rfl (by rw [hzl]; kernel_rfl) ?_) | (refine step_loadW (goesBx.after HXB.out hb15) (by rfl) 54 _ (by rfl) (by rfl) _ Tryz.underlying54 rfl (by rw [hzl]; kernel_rfl) ?_)
          refine hK.out _ _ ((by unfold Aft; exact Below.refl _ _)) ?_
          clear hK K
          try simp only [Act.put, List.setIfInBounds_toArray, List.set_cons_zero, List.set_cons_succ]
          refine reg_call 8 (by kernel_rfl) (by rfl) (fun K hK => ?_)
          go_simp
          go_at_call 9; have hof := replyOf_any HQD.out HYL.out; rw [← HUS.out] at hof; refine hof.mono ?_; clear hof; rintro e w15 ⟨t15, rfl, hq15, hb15⟩
          refine hK.out _ _ (hb15) ?_
          clear hK K
          try simp only [Act.put, List.setIfInBounds_toArray, List.set_cons_zero, List.set_cons_succ]
          refine reg_call 10 (by kernel_rfl) (by rfl) (fun K hK => ?_)
          go_simp
          go_at_call 12; have hsm := same9_any hq15 (goesRf.after HFD.out hb15); rw [← HZS.out] at hsm; refine hsm.mono ?_; clear hsm; rintro e w16 ⟨rfl, hb16⟩; have k16 := seqB hb15 hb16; have e1 := Aft.each (kcell k16 (HXA.out.c 1 _ hU1.out)); have e2 := Aft.each (kcell k16 (HXA.out.c 2 _ hU2.out)); have e3 := Aft.each (kcell k16 (HXC.out.c 0 (.int .u32 ((cd : Nat) : Int)) rfl)); have e4 := Aft.each (kcell k16 (HXC.out.c 1 (.string (str f.text)) rfl))
          refine hK.out _ _ (hb16) ?_
          clear hK K
          try simp only [Act.put, List.setIfInBounds_toArray, List.set_cons_zero, List.set_cons_succ]
          (refine reg_take 11 (v := ?_) (by rfl) (by kernel_rfl) (by kernel_rfl) (by kernel_rfl) (by exact fun _ _ _ h => h) (by rfl) ?_ ?_; rotate_left; focus (intro w hSw; go_simp; try with_reducible rfl))
          simp only [Act.put, List.setIfInBounds_toArray, List.set_cons_zero, List.set_cons_succ]
          (refine reg_take 12 (v := ?_) (by rfl) (by kernel_rfl) (by kernel_rfl) (by kernel_rfl) (by exact fun _ _ _ h => h) (by rfl) ?_ ?_; rotate_left; focus (intro w hSw; go_simp; try with_reducible rfl))
          simp only [Act.put, List.setIfInBounds_toArray, List.set_cons_zero, List.set_cons_succ]
          first | (refine reg_skip 13 (by rfl) (by kernel_rfl) (by kernel_rfl) (by kernel_rfl) (by exact fun _ _ _ h => h) (by rfl) ?_) | (refine reg_take 13 (v := ?_) (by rfl) (by kernel_rfl) (by kernel_rfl) (by kernel_rfl) (by exact fun _ _ _ h => h) (by rfl) ?_ ?_; rotate_left; focus (intro w hSw; go_simp; try with_reducible rfl))
          simp only [Act.put, List.setIfInBounds_toArray, List.set_cons_zero, List.set_cons_succ]
          first | (refine reg_skip 14 (by rfl) (by kernel_rfl) (by kernel_rfl) (by kernel_rfl) (by exact fun _ _ _ h => h) (by rfl) ?_) | (refine reg_take 14 (v := ?_) (by rfl) (by kernel_rfl) (by kernel_rfl) (by kernel_rfl) (by exact fun _ _ _ h => h) (by rfl) ?_ ?_; rotate_left; focus (intro w hSw; go_simp; try with_reducible rfl))
          simp only [Act.put, List.setIfInBounds_toArray, List.set_cons_zero, List.set_cons_succ]
          first | (refine reg_skip 15 (by rfl) (by kernel_rfl) (by kernel_rfl) (by kernel_rfl) (by exact fun _ _ _ h => h) (by rfl) ?_) | (refine reg_take 15 (v := ?_) (by rfl) (by kernel_rfl) (by kernel_rfl) (by kernel_rfl) (by exact fun _ _ _ h => h) (by rfl) ?_ ?_; rotate_left; focus (intro w hSw; go_simp; try with_reducible rfl))
          simp only [Act.put, List.setIfInBounds_toArray, List.set_cons_zero, List.set_cons_succ]
          first | (refine reg_skip 16 (by rfl) (by kernel_rfl) (by kernel_rfl) (by kernel_rfl) (by exact fun _ _ _ h => h) (by rfl) ?_) | (refine reg_take 16 (v := ?_) (by rfl) (by kernel_rfl) (by kernel_rfl) (by kernel_rfl) (by exact fun _ _ _ h => h) (by rfl) ?_ ?_; rotate_left; focus (intro w hSw; go_simp; try with_reducible rfl))
          simp only [Act.put, List.setIfInBounds_toArray, List.set_cons_zero, List.set_cons_succ]
          first | (refine reg_skip 17 (by rfl) (by kernel_rfl) (by kernel_rfl) (by kernel_rfl) (by exact fun _ _ _ h => h) (by rfl) ?_) | (refine reg_take 17 (v := ?_) (by rfl) (by kernel_rfl) (by kernel_rfl) (by kernel_rfl) (by exact fun _ _ _ h => h) (by rfl) ?_ ?_; rotate_left; focus (intro w hSw; go_simp; try with_reducible rfl))
          simp only [Act.put, List.setIfInBounds_toArray, List.set_cons_zero, List.set_cons_succ]
          first | (refine reg_skip 18 (by rfl) (by kernel_rfl) (by kernel_rfl) (by kernel_rfl) (by exact fun _ _ _ h => h) (by rfl) ?_) | (refine reg_take 18 (v := ?_) (by rfl) (by kernel_rfl) (by kernel_rfl) (by kernel_rfl) (by exact fun _ _ _ h => h) (by rfl) ?_ ?_; rotate_left; focus (intro w hSw; go_simp; try with_reducible rfl))
          simp only [Act.put, List.setIfInBounds_toArray, List.set_cons_zero, List.set_cons_succ]
          (refine reg_take 19 (v := ?_) (by rfl) (by kernel_rfl) (by kernel_rfl) (by kernel_rfl) (by exact fun _ _ _ h => h) (by rfl) ?_ ?_; rotate_left; focus (intro w hSw; go_simp; try with_reducible rfl))
          simp only [Act.put, List.setIfInBounds_toArray, List.set_cons_zero, List.set_cons_succ]
          (refine reg_take 20 (v := ?_) (by rfl) (by kernel_rfl) (by kernel_rfl) (by kernel_rfl) (by exact fun _ _ _ h => h) (by rfl) ?_ ?_; rotate_left; focus (intro w hSw; go_simp; try with_reducible rfl))
          simp only [Act.put, List.setIfInBounds_toArray, List.set_cons_zero, List.set_cons_succ]
          first | (refine reg_skip 21 (by rfl) (by kernel_rfl) (by kernel_rfl) (by kernel_rfl) (by exact fun _ _ _ h => h) (by rfl) ?_) | (refine reg_take 21 (v := ?_) (by rfl) (by kernel_rfl) (by kernel_rfl) (by kernel_rfl) (by exact fun _ _ _ h => h) (by rfl) ?_ ?_; rotate_left; focus (intro w hSw; go_simp; try with_reducible rfl))
          simp only [Act.put, List.setIfInBounds_toArray, List.set_cons_zero, List.set_cons_succ]
          first | (refine reg_skip 22 (by rfl) (by kernel_rfl) (by kernel_rfl) (by kernel_rfl) (by exact fun _ _ _ h => h) (by rfl) ?_) | (refine reg_take 22 (v := ?_) (by rfl) (by kernel_rfl) (by kernel_rfl) (by kernel_rfl) (by exact fun _ _ _ h => h) (by rfl) ?_ ?_; rotate_left; focus (intro w hSw; go_simp; try with_reducible rfl))
          simp only [Act.put, List.setIfInBounds_toArray, List.set_cons_zero, List.set_cons_succ]
          first | (refine reg_skip 23 (by rfl) (by kernel_rfl) (by kernel_rfl) (by kernel_rfl) (by exact fun _ _ _ h => h) (by rfl) ?_) | (refine reg_take 23 (v := ?_) (by rfl) (by kernel_rfl) (by kernel_rfl) (by kernel_rfl) (by exact fun _ _ _ h => h) (by rfl) ?_ ?_; rotate_left; focus (intro w hSw; go_simp; try with_reducible rfl))
          simp only [Act.put, List.setIfInBounds_toArray, List.set_cons_zero, List.set_cons_succ]
          first | (refine reg_skip 24 (by rfl) (by kernel_rfl) (by kernel_rfl) (by kernel_rfl) (by exact fun _ _ _ h => h) (by rfl) ?_) | (refine reg_take 24 (v := ?_) (by rfl) (by kernel_rfl) (by kernel_rfl) (by kernel_rfl) (by exact fun _ _ _ h => h) (by rfl) ?_ ?_; rotate_left; focus (intro w hSw; go_simp; try with_reducible rfl))
          simp only [Act.put, List.setIfInBounds_toArray, List.set_cons_zero, List.set_cons_succ]
          first | (refine reg_skip 25 (by rfl) (by kernel_rfl) (by kernel_rfl) (by kernel_rfl) (by exact fun _ _ _ h => h) (by rfl) ?_) | (refine reg_take 25 (v := ?_) (by rfl) (by kernel_rfl) (by kernel_rfl) (by kernel_rfl) (by exact fun _ _ _ h => h) (by rfl) ?_ ?_; rotate_left; focus (intro w hSw; go_simp; try with_reducible rfl))
          simp only [Act.put, List.setIfInBounds_toArray, List.set_cons_zero, List.set_cons_succ]
          first | (refine reg_skip 26 (by rfl) (by kernel_rfl) (by kernel_rfl) (by kernel_rfl) (by exact fun _ _ _ h => h) (by rfl) ?_) | (refine reg_take 26 (v := ?_) (by rfl) (by kernel_rfl) (by kernel_rfl) (by kernel_rfl) (by exact fun _ _ _ h => h) (by rfl) ?_ ?_; rotate_left; focus (intro w hSw; go_simp; try with_reducible rfl))
          simp only [Act.put, List.setIfInBounds_toArray, List.set_cons_zero, List.set_cons_succ]
          (refine reg_take 27 (v := ?_) (by rfl) (by kernel_rfl) (by kernel_rfl) (by kernel_rfl) (by exact fun _ _ _ h => h) (by rfl) ?_ ?_; rotate_left; focus (intro w hSw; go_simp; try with_reducible rfl))
          simp only [Act.put, List.setIfInBounds_toArray, List.set_cons_zero, List.set_cons_succ]
          (refine reg_take 28 (v := ?_) (by rfl) (by kernel_rfl) (by kernel_rfl) (by kernel_rfl) (by exact fun _ _ _ h => h) (by rfl) ?_ ?_; rotate_left; focus (intro w hSw; go_simp; try with_reducible rfl))
          simp only [Act.put, List.setIfInBounds_toArray, List.set_cons_zero, List.set_cons_succ]
          refine wpAnyH_done (by kernel_rfl) ?_ _
      rotate_left 2
      focus
        first | (refine step_loadW HXB.out (by rfl) 54 _ (by rfl) (by rfl) _ Tryz.underlying54 rfl (by rw [hzl]; kernel_rfl) ?_) | (refine step_loadW (goesBx.after HXB.out hb15) (by rfl) 54 _ (by rfl) (by rfl) _ Tryz.underlying54 rfl (by rw [hzl]; kernel_rfl) ?_)
        refine hK.out _ _ ((by unfold Aft; exact Below.refl _ _)) ?_
        clear hK K
        try simp only [Act.put, List.setIfInBounds_toArray, List.set_cons_zero, List.set_cons_succ]
        refine reg_call 7 (by kernel_rfl) (by rfl) (fun K hK => ?_)
        refine step_loadW HXA.out (by rfl) 40 _ (by rfl) (by rfl) _ Tryz.underlying40 rfl (by rw [hul]; kernel_rfl) ?_
        refine hK.out _ _ ((by unfold Aft; exact Below.refl _ _)) ?_
        clear hK K
        try simp only [Act.put, List.setIfInBounds_toArray, List.set_cons_zero, List.set_cons_succ]
        refine reg_call 8 (by kernel_rfl) (by rfl) (fun K hK => ?_)
        go_simp
        go_at_call 9; have hof := replyOf_any HQD.out HYL.out; rw [← HUS.out] at hof; refine hof.mono ?_; clear hof; rintro e w15 ⟨t15, rfl, hq15, hb15⟩
        refine hK.out _ _ (hb15) ?_
        clear hK K
        try simp only [Act.put, List.setIfInBounds_toArray, List.set_cons_zero, List.set_cons_succ]
        refine reg_call 10 (by kernel_rfl) (by rfl) (fun K hK => ?_)
        go_simp
        go_at_call 12; have hsm := same9_any hq15 (goesRf.after HFD.out hb15); rw [← HZS.out] at hsm; refine hsm.mono ?_; clear hsm; rintro e w16 ⟨rfl, hb16⟩; have k16 := seqB hb15 hb16; have e1 := Aft.each (kcell k16 (HXA.out.c 1 _ hU1.out)); have e2 := Aft.each (kcell k16 (HXA.out.c 2 _ hU2.out)); have e3 := Aft.each (kcell k16 (HXC.out.c 0 (.int .u32 ((cd : Nat) : Int)) rfl)); have e4 := Aft.each (kcell k16 (HXC.out.c 1 (.string (str f.text)) rfl))
        refine hK.out _ _ (hb16) ?_
        clear hK K
        try simp only [Act.put, List.setIfInBounds_toArray, List.set_cons_zero, List.set_cons_succ]
        (refine reg_take 11 (v := ?_) (by rfl) (by kernel_rfl) (by kernel_rfl) (by kernel_rfl) (by exact fun _ _ _ h => h) (by rfl) ?_ ?_; rotate_left; focus (intro w hSw; go_simp; try with_reducible rfl))
        simp only [Act.put, List.setIfInBounds_toArray, List.set_cons_zero, List.set_cons_succ]
        (refine reg_take 12 (v := ?_) (by rfl) (by kernel_rfl) (by kernel_rfl) (by kernel_rfl) (by exact fun _ _ _ h => h) (by rfl) ?_ ?_; rotate_left; focus (intro w hSw; go_simp; try with_reducible rfl))
        simp only [Act.put, List.setIfInBounds_toArray, List.set_cons_zero, List.set_cons_succ]
        first | (refine reg_skip 13 (by rfl) (by kernel_rfl) (by kernel_rfl) (by kernel_rfl) (by exact fun _ _ _ h => h) (by rfl) ?_) | (refine reg_take 13 (v := ?_) (by rfl) (by kernel_rfl) (by kernel_rfl) (by kernel_rfl) (by exact fun _ _ _ h => h) (by rfl) ?_ ?_; rotate_left; focus (intro w hSw; go_simp; try with_reducible rfl))
        simp only [Act.put, List.setIfInBounds_toArray, List.set_cons_zero, List.set_cons_succ]
        first | (refine reg_skip 14 (by rfl) (by kernel_rfl) (by kernel_rfl) (by kernel_rfl) (by exact fun _ _ _ h => h) (by rfl) ?_) | (refine reg_take 14 (v := ?_) (by rfl) (by kernel_rfl) (by kernel_rfl) (by kernel_rfl) (by exact fun _ _ _ h => h) (by rfl) ?_ ?_; rotate_left; focus (intro w hSw; go_simp; try with_reducible rfl))
        simp only [Act.put, List.setIfInBounds_toArray, List.set_cons_zero, List.set_cons_succ]
        first | (refine reg_skip 15 (by rfl) (by kernel_rfl) (by kernel_rfl) (by kernel_rfl) (by exact fun _ _ _ h => h) (by rfl) ?_) | (refine reg_take 15 (v := ?_) (by rfl) (by kernel_rfl) (by kernel_rfl) (by kernel_rfl) (by exact fun _ _ _ h => h) (by rfl) ?_ ?_; rotate_left; focus (intro w hSw; go_simp; try with_reducible rfl))
        simp only [Act.put, List.setIfInBounds_toArray, List.set_cons_zero, List.set_cons_succ]
        first | (refine reg_skip 16 (by rfl) (by kernel_rfl) (by kernel_rfl) (by kernel_rfl) (by exact fun _ _ _ h => h) (by rfl) ?_) | (refine reg_take 16 (v := ?_) (by rfl) (by kernel_rfl) (by kernel_rfl) (by kernel_rfl) (by exact fun _ _ _ h => h) (by rfl) ?_ ?_; rotate_left; focus (intro w hSw; go_simp; try with_reducible rfl))
        simp only [Act.put, List.setIfInBounds_toArray, List.set_cons_zero, List.set_cons_succ]
        first | (refine reg_skip 17 (by rfl) (by kernel_rfl) (by kernel_rfl) (by kernel_rfl) (by exact fun _ _ _ h => h) (by rfl) ?_) | (refine reg_take 17 (v := ?_) (by rfl) (by kernel_rfl) (by kernel_rfl) (by kernel_rfl) (by exact fun _ _ _ h => h) (by rfl) ?_ ?_; rotate_left; focus (intro w hSw; go_simp; try with_reducible rfl))
        simp only [Act.put, List.setIfInBounds_toArray, List.set_cons_zero, List.set_cons_succ]
        first | (refine reg_skip 18 (by rfl) (by kernel_rfl) (by kernel_rfl) (by kernel_rfl) (by exact fun _ _ _ h => h) (by rfl) ?_) | (refine reg_take 18 (v := ?_) (by rfl) (by kernel_rfl) (by kernel_rfl) (by kernel_rfl) (by exact fun _ _ _ h => h) (by rfl) ?_ ?_; rotate_left; focus (intro w hSw; go_simp; try with_reducible rfl))
        simp only [Act.put, List.setIfInBounds_toArray, List.set_cons_zero, List.set_cons_succ]
        (refine reg_take 19 (v := ?_) (by rfl) (by kernel_rfl) (by kernel_rfl) (by kernel_rfl) (by exact fun _ _ _ h => h) (by rfl) ?_ ?_; rotate_left; focus (intro w hSw; go_simp; try with_reducible rfl))
        simp only [Act.put, List.setIfInBounds_toArray, List.set_cons_zero, List.set_cons_succ]
        (refine reg_take 20 (v := ?_) (by rfl) (by kernel_rfl) (by kernel_rfl) (by kernel_rfl) (by exact fun _ _ _ h => h) (by rfl) ?_ ?_; rotate_left; focus (intro w hSw; go_simp; try with_reducible rfl))
        simp only [Act.put, List.setIfInBounds_toArray, List.set_cons_zero, List.set_cons_succ]
        first | (refine reg_skip 21 (by rfl) (by kernel_rfl) (by kernel_rfl) (by kernel_rfl) (by exact fun _ _ _ h => h) (by rfl) ?_) | (refine reg_take 21 (v := ?_) (by rfl) (by kernel_rfl) (by kernel_rfl) (by kernel_rfl) (by exact fun _ _ _ h => h) (by rfl) ?_ ?_; rotate_left; focus (intro w hSw; go_simp; try with_reducible rfl))
        simp only [Act.put, List.setIfInBounds_toArray, List.set_cons_zero, List.set_cons_succ]
        first | (refine reg_skip 22 (by rfl) (by kernel_rfl) (by kernel_rfl) (by kernel_rfl) (by exact fun _ _ _ h => h) (by rfl) ?_) | (refine reg_take 22 (v := ?_) (by rfl) (by kernel_rfl) (by kernel_rfl) (by kernel_rfl) (by exact fun _ _ _ h => h) (by rfl) ?_ ?_; rotate_left; focus (intro w hSw; go_simp; try with_reducible rfl))
        simp only [Act.put, List.setIfInBounds_toArray, List.set_cons_zero, List.set_cons_succ]
        first | (refine reg_skip 23 (by rfl) (by kernel_rfl) (by kernel_rfl) (by kernel_rfl) (by exact fun _ _ _ h => h) (by rfl) ?_) | (refine reg_take 23 (v := ?_) (by rfl) (by kernel_rfl) (by kernel_rfl) (by kernel_rfl) (by exact fun _ _ _ h => h) (by rfl) ?_ ?_; rotate_left; focus (intro w hSw; go_simp; try with_reducible rfl))
        simp only [Act.put, List.setIfInBounds_toArray, List.set_cons_zero, List.set_cons_succ]
        first | (refine reg_skip 24 (by rfl) (by kernel_rfl) (by kernel_rfl) (by kernel_rfl) (by exact fun _ _ _ h => h) (by rfl) ?_) | (refine reg_take 24 (v := ?_) (by rfl) (by kernel_rfl) (by kernel_rfl) (by kernel_rfl) (by exact fun _ _ _ h => h) (by rfl) ?_ ?_; rotate_left; focus (intro w hSw; go_simp; try with_reducible rfl))
        simp only [Act.put, List.setIfInBounds_toArray, List.set_cons_zero, List.set_cons_succ]
        first | (refine reg_skip 25 (by rfl) (by kernel_rfl) (by kernel_rfl) (by kernel_rfl) (by exact fun _ _ _ h => h) (by rfl) ?_) | (refine reg_take 25 (v := ?_) (by rfl) (by kernel_rfl) (by kernel_rfl) (by kernel_rfl) (by exact fun _ _ _ h => h) (by rfl) ?_ ?_; rotate_left; focus (intro w hSw; go_simp; try with_reducible rfl))
        simp only [Act.put, List.setIfInBounds_toArray, List.set_cons_zero, List.set_cons_succ]
        first | (refine reg_skip 26 (by rfl) (by kernel_rfl) (by kernel_rfl) (by kernel_rfl) (by exact fun _ _ _ h => h) (by rfl) ?_) | (refine reg_take 26 (v := ?_) (by rfl) (by kernel_rfl) (by kernel_rfl) (by kernel_rfl) (by exact fun _ _ _ h => h) (by rfl) ?_ ?_; rotate_left; focus (intro w hSw; go_simp; try with_reducible rfl))
        simp only [Act.put, List.setIfInBounds_toArray, List.set_cons_zero, List.set_cons_succ]
        (refine reg_take 27 (v := ?_) (by rfl) (by kernel_rfl) (by kernel_rfl) (by kernel_rfl) (by exact fun _ _ _ h => h) (by rfl) ?_ ?_; rotate_left; focus (intro w hSw; go_simp; try with_reducible rfl))
        simp only [Act.put, List.setIfInBounds_toArray, List.set_cons_zero, List.set_cons_succ]
        (refine reg_take 28 (v := ?_) (by rfl) (by kernel_rfl) (by kernel_rfl) (by kernel_rfl) (by exact fun _ _ _ h => h) (by rfl) ?_ ?_; rotate_left; focus (intro w hSw; go_simp; try with_reducible rfl))
        simp only [Act.put, List.setIfInBounds_toArray, List.set_cons_zero, List.set_cons_succ]
        refine wpAnyH_done (by kernel_rfl) ?_ _
      all_goals
        have HB17 : Hid (Below w.heap.size w w16) := Lib.hid (HB13.out.trans (((Below.refl w13.heap.size w13).drew.trans (hb15.trans (hb16.mono hb15.size))).mono hz13))
        clear hb15 hb16
        go_wp2_with fail
        go_ret
        exact ⟨by simp, HB17.out⟩
end Go.Proofs.Sb
