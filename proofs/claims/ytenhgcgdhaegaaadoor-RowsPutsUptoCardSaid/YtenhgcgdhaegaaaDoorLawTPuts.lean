/- The walk over signalboxlaw10.RowsPuts: true, and nothing that was there has turned. Conditions: the table of names reads as it was laid; parts of up to 2^20 bytes. (written by gen_ltp.py) -/
import Derived.Test.YtenhgcgdhaegaaaDoorAwake10
import Derived.Test.YtenhgcgdhaegaaaDoorSlight10
import Derived.Test.YtenhgcgdhaegaaaDoorTrn
import Derived.Test.YtenhgcgdhaegaaaDoorTrg
import Derived.Test.YtenhgcgdhaegaaaDoorTrj
set_option linter.unusedVariables false
set_option linter.unusedSimpArgs false
namespace Sb
theorem norm_sm {D : Nat} {t : Tb} (h : TbSm t) : TbSm (t.norm D) := by
  refine ⟨by show (t.cols.map _).length ≤ 4096; rw [List.length_map]; exact h.cols, by show (t.rows.map _).length ≤ 4096; rw [List.length_map]; exact h.rows, fun x hx => ?_⟩
  obtain ⟨y, hy, rfl⟩ := List.mem_map.1 hx
  rw [List.length_map]
  exact h.each y hy
theorem sm_slight {D : Nat} {t : Tb} (h : slightT D t = true) : TbSm t := by
  obtain ⟨h1, h2, h3, h4⟩ := slight_parts h
  exact ⟨by omega, by omega, fun x hx => by have := h4 x hx; omega⟩
end Sb
namespace Go.Proofs.Sb
open Go.RowKit _root_.Sb
set_option maxHeartbeats 8000000 in
set_option maxRecDepth 100000 in
theorem rowsPuts_any {dp : Nat} {w : World} {c d q : Pl3} {t : Tb} {one : Bool} (ht : TbR 1048576 dp (fun _ => True) w c d q t) (hB : TbB 1048576 t) (hpl : Pl w) :
    Calls Tryd.prog 5 #[.agg (tabV t c d q).toArray, .bool one] w fun e w' => e = .returned (.bool true) ∧ Below w.heap.size w w' := by
  have HT := Lib.hid ht
  have HTB := Lib.hid hB; clear hB
  have HPL := Lib.hid hpl; clear hpl
  have HLE := Lib.hid ht.lens
  clear ht
  obtain ⟨sv, hsv⟩ : ∃ sv, slightT (dp + 1) t = sv := ⟨_, rfl⟩
  have HSV := Lib.hid hsv; clear hsv
  obtain ⟨r, hr⟩ : ∃ r, putTb (dp + 1) t one = r := ⟨_, rfl⟩
  have HR := Lib.hid hr; clear hr
  have HT1 := Lib.hid (Bx.alloc w (tabV t c d q).toArray 29 (S := fun b => b = w.heap.size) rfl rfl)
  go_enter Tryd.func5, Tryd.ntmps5
  go_wp2_with fail
  refine (awake10 (HPL.out.after (by repeat (first | exact Below.refl _ _ | assumption | refine Below.drew ?_ | refine below_drewN ?_ _ | refine Below.alloc ?_ (by first | (simp; done) | omega | (simp; omega)) _ | refine Below.setCell ?_ (by first | (simp; done) | omega | (simp; omega)) _)))).mono ?_
  rintro e w1 ⟨rfl, hb1⟩
  have HX1 := Lib.hid (goesBx.after HT1.out hb1)
  have hb01 : Below w.heap.size w w1 := Below.trans (by repeat (first | exact Below.refl _ _ | assumption | refine Below.drew ?_ | refine below_drewN ?_ _ | refine Below.alloc ?_ (by first | (simp; done) | omega | (simp; omega)) _ | refine Below.setCell ?_ (by first | (simp; done) | omega | (simp; omega)) _)) (hb1.mono (by simp))
  have HB1 := Lib.hid hb01
  clear hb1 hb01 HT1
  go_wp2_with (first | (refine wpList_loadB HX1.out (by rfl) 29 _ (by rfl) (by rfl) _ Tryd.underlying29 rfl (by kernel_rfl) ?_))
  refine (slight10_any (goesTb.after HT.out HB1.out)).mono ?_
  rintro e w2 ⟨rfl, hb2⟩
  rw [HSV.out]
  have HX2 := Lib.hid (goesBx.after HX1.out hb2)
  have HB2 := Lib.hid (HB1.out.trans (hb2.mono HB1.out.size))
  clear hb2 HX1 HB1
  cases sv with
  | false =>
    go_wp2_with fail
    go_ret
    exact ⟨rfl, HB2.out⟩
  | true =>
    have HWT := Lib.hid (wt_slight HSV.out HLE.out HTB.out)
    have HSM := Lib.hid (sm_slight HSV.out)
    go_wp2_with (first | (refine wpList_loadB HX2.out (by rfl) 29 _ (by rfl) (by rfl) _ Tryd.underlying29 rfl (by kernel_rfl) ?_))
    have H3 := tPut_any (one := one) (goesTb.after HT.out HB2.out) (by decide) (HPL.out.after HB2.out) (by have := HWT.out.1; omega) (fun x hx => by have := HWT.out.2 x hx; omega)
    rw [HR.out] at H3
    refine H3.mono ?_
    clear H3
    rintro e w3 ⟨A3, n3, c3, rfl, ho3, hb3⟩
    have HB3 := Lib.hid (HB2.out.trans (hb3.mono HB2.out.size))
    have HX3 := Lib.hid (goesBx.after HX2.out hb3)
    have HO3 := Lib.hid ho3.sl
    have HL3 := Lib.hid ho3.len
    clear ho3 hb3 HX2 HB2
    go_wp2_with (first | (refine wpList_loadB HX3.out (by rfl) 29 _ (by rfl) (by rfl) _ Tryd.underlying29 rfl (by kernel_rfl) ?_))
    refine (tableOf_any (goesTb.after HT.out HB3.out) HSM.out).mono ?_
    rintro e w4 ⟨c4, q4, rfl, ht4, hb4⟩
    have HB4 := Lib.hid (HB3.out.trans (hb4.mono HB3.out.size))
    have HX4 := Lib.hid (goesBx.after HX3.out hb4)
    have HO4 := Lib.hid (goesSl.after HO3.out hb4)
    have HR4 := Lib.hid ht4
    clear ht4 hb4 HX3 HB3 HO3
    go_wp2_with fail
    have H5 := rPut10_any (one := one) HR4.out (by decide) (by have := HWT.out.1; omega) (fun x hx => by have := HWT.out.2 x hx; omega)
    rw [HR.out] at H5
    refine H5.mono ?_
    clear H5
    rintro e w5 ⟨A5, n5, c5, rfl, ho5, hb5⟩
    have HB5 := Lib.hid (HB4.out.trans (hb5.mono HB4.out.size))
    have HX5 := Lib.hid (goesBx.after HX4.out hb5)
    have HO5 := Lib.hid (goesSl.after HO4.out hb5)
    have HQ5 := Lib.hid ho5.sl
    have HL5 := Lib.hid ho5.len
    clear ho5 hb5 HX4 HB4 HO4 HR4
    have hcv1 := conv_sl HO5.out
    have hcv2 := conv_sl HQ5.out
    cases r with
    | error er =>
      have hne := putTb_ne HR.out
      have hneb : (er != 0) = true := by simpa using hne
      simp only [werr_error, wval_error] at hcv1 hcv2 ⊢
      go_wp2_with fail
      go_ret
      exact ⟨rfl, HB5.out⟩
    | ok b =>
      simp only [werr_ok, wval_ok] at hcv1 hcv2 ⊢
      have hG := tb_back (ok31_of HTB.out) HR.out
      obtain ⟨u, hu⟩ : ∃ u, u = t.norm (dp + 1) := ⟨_, rfl⟩
      rw [← hu] at hG
      have HG := Lib.hid hG
      have HUS : Hid (TbSm u) := Lib.hid (hu ▸ norm_sm HSM.out)
      have HUC : Hid (u.count = t.count ∧ u.cols.length = t.cols.length ∧ u.rows.length = t.rows.length) := Lib.hid (by rw [hu]; exact ⟨rfl, by show (t.cols.map _).length = _; rw [List.length_map], by show (t.rows.map _).length = _; rw [List.length_map]⟩)
      have hle := putT_le HR.out
      have hwt := HWT.out.1
      have hl3 := HL3.out
      have hl5 := HL5.out
      simp only [wval_ok] at hl3 hl5
      have hn3 : n3 ≤ 140737488355328 := by omega
      have hn5 : n5 ≤ 140737488355328 := by omega
      clear hG hu hle hwt hl3 hl5
      go_wp2_with fail
      clear hcv1 hcv2
      have H6 := tGet_any HO5.out hn3 (HPL.out.after HB5.out)
      rw [show (wval (.ok b) : B) = b from rfl, HG.out] at H6
      refine H6.mono ?_
      clear H6
      rintro e w6 ⟨c7, d7, q7, rfl, ht6, hb6⟩
      have HT6 := Lib.hid ht6
      have HQ6 := Lib.hid (goesSl.after HQ5.out hb6)
      have HX6 := Lib.hid (goesBx.after HX5.out hb6)
      have HB6 := Lib.hid (HB5.out.trans (hb6.mono HB5.out.size))
      clear ht6 hb6 HQ5 HX5 HB5 HO5
      simp only [eV, eE]
      go_upto_region 14 with (first | (refine wpList_store_newB (by rfl) 29 _ _ (by rfl) _ _ _ _ (by rfl) (by rfl) (by simp) (by rfl) (by kernel_rfl) (by rfl) (by rfl) ?_; intro w7 hb7 hz7 hx7))
      obtain ⟨X, hX⟩ : ∃ X, X = w6.heap.size := ⟨_, rfl⟩
      rw [← hX]
      have HU7 : Hid (Bx (fun b => b = X) w7 X (tabV u c7 d7 q7)) := Lib.hid (hX ▸ hx7)
      have HT7 : Hid (TbR 9223372036854775807 20 (fun _ => True) w7 c7 d7 q7 u) := Lib.hid (goesTb.mono (goesTb.after HT6.out hb7) fun _ _ _ => trivial)
      have HQ7 := Lib.hid (goesSl.after HQ6.out hb7)
      have HX7 := Lib.hid (goesBx.after HX6.out hb7)
      have HB7 := Lib.hid (HB6.out.trans (hb7.mono HB6.out.size))
      clear hx7 hb7 hz7 hX HQ6 HX6 HB6 HT6
      go_wp2_with fail
      have H8 := rGet10_any HQ7.out hn5
      rw [show (wval (.ok b) : B) = b from rfl, HG.out] at H8
      refine H8.mono ?_
      clear H8
      rintro e w8 ⟨c9, q9, rfl, ht8, hb8⟩
      have HR8 := Lib.hid ht8
      have HT8 := Lib.hid (goesTb.after HT7.out hb8)
      have HU8 := Lib.hid (goesBx.after HU7.out hb8)
      have HX8 := Lib.hid (goesBx.after HX7.out hb8)
      have HB8 := Lib.hid (HB7.out.trans (hb8.mono HB7.out.size))
      clear ht8 hb8 HT7 HU7 HX7 HB7 HQ7
      simp only [eV, eE]
      go_upto_region 15 with (first | (refine wpList_store_newB (by rfl) 38 _ _ (by rfl) _ _ _ _ (by rfl) (by rfl) (by simp) (by rfl) (by kernel_rfl) (by rfl) (by rfl) ?_; intro w9 hb9 hz9 hx9))
      obtain ⟨Y, hY⟩ : ∃ Y, Y = w8.heap.size := ⟨_, rfl⟩
      rw [← hY]
      have HV9 : Hid (Bx (fun b => b = Y) w9 Y (rTV u c9 q9)) := Lib.hid (hY ▸ hx9)
      have HR9 := Lib.hid (goesRTb.after HR8.out hb9)
      have HT9 := Lib.hid (goesTb.after HT8.out hb9)
      have HU9 := Lib.hid (goesBx.after HU8.out hb9)
      have HX9 := Lib.hid (goesBx.after HX8.out hb9)
      have HB9 := Lib.hid (HB8.out.trans (hb9.mono HB8.out.size))
      clear hx9 hb9 hz9 hY HR8 HT8 HU8 HX8 HB8
      obtain ⟨XA, xn, Xc⟩ := c7
      obtain ⟨YA, yn, Yc⟩ := q7
      have hcl := HT9.out.cl.len
      have hql := HT9.out.rw.len
      have hcl2 := HT.out.cl.len
      have hql2 := HT.out.rw.len
      obtain ⟨cA, cn, cc⟩ := c
      obtain ⟨qA, qn, qc⟩ := q
      dsimp only at hcl hql hcl2 hql2
      obtain rfl : cn = xn := by have := HUC.out.2.1; omega
      obtain rfl : qn = yn := by have := HUC.out.2.2; omega
      clear hcl hql hcl2 hql2
      have hdr : Below w9.heap.size w9 w9.drew := (Below.refl _ _).drew
      have e0 := Aft.each (kcell hdr (HU9.out.c 0 (.int .i64 u.count) rfl))
      have e1 := Aft.each (kcell hdr (HU9.out.c 1 (.slice XA cn Xc) rfl))
      have e2 := Aft.each (kcell hdr (HU9.out.c 2 (.bool u.more) rfl))
      have e3 := Aft.each (kcell hdr (HU9.out.c 3 (.int .i64 u.state.kind) rfl))
      have e4 := Aft.each (kcell hdr (HU9.out.c 4 (.slice d7.1 d7.2.1 d7.2.2) rfl))
      have e5 := Aft.each (kcell hdr (HU9.out.c 5 (.slice YA qn Yc) rfl))
      have f0 := Aft.each (kcell hdr (HV9.out.c 0 (.int .i64 u.count) rfl))
      have f1 := Aft.each (kcell hdr (HV9.out.c 1 (.slice c9.1 c9.2.1 c9.2.2) rfl))
      have f2 := Aft.each (kcell hdr (HV9.out.c 2 (.bool u.more) rfl))
      have f3 := Aft.each (kcell hdr (HV9.out.c 3 (.int .i64 u.state.kind) rfl))
      have f4 := Aft.each (kcell hdr (HV9.out.c 4 (.string (str u.state.bytes)) rfl))
      have f5 := Aft.each (kcell hdr (HV9.out.c 5 (.slice q9.1 q9.2.1 q9.2.2) rfl))
      clear hdr
      refine reg_start (by kernel_rfl) ?_
      (refine reg_take 0 (v := ?_) (by rfl) (by kernel_rfl) (by kernel_rfl) (by kernel_rfl) (by exact fun _ _ _ h => h) (by rfl) ?_ ?_; rotate_left; focus (intro w hSw; go_simp; try with_reducible rfl))
      simp only [Act.put, List.setIfInBounds_toArray, List.set_cons_zero, List.set_cons_succ]
      (refine reg_take 1 (v := ?_) (by rfl) (by kernel_rfl) (by kernel_rfl) (by kernel_rfl) (by exact fun _ _ _ h => h) (by rfl) ?_ ?_; rotate_left; focus (intro w hSw; go_simp; try with_reducible rfl))
      simp only [Act.put, List.setIfInBounds_toArray, List.set_cons_zero, List.set_cons_succ]
      (refine reg_take 2 (v := ?_) (by rfl) (by kernel_rfl) (by kernel_rfl) (by kernel_rfl) (by exact fun _ _ _ h => h) (by rfl) ?_ ?_; rotate_left; focus (intro w hSw; go_simp; try with_reducible rfl))
      simp only [Act.put, List.setIfInBounds_toArray, List.set_cons_zero, List.set_cons_succ]
      first | (refine reg_skip 3 (by rfl) (by kernel_rfl) (by kernel_rfl) (by kernel_rfl) (by exact fun _ _ _ h => h) (by rfl) ?_) | (refine reg_take 3 (v := ?_) (by rfl) (by kernel_rfl) (by kernel_rfl) (by kernel_rfl) (by exact fun _ _ _ h => h) (by rfl) ?_ ?_; rotate_left; focus (intro w hSw; go_simp; try with_reducible rfl))
      simp only [Act.put, List.setIfInBounds_toArray, List.set_cons_zero, List.set_cons_succ]
      first | (refine reg_skip 4 (by rfl) (by kernel_rfl) (by kernel_rfl) (by kernel_rfl) (by exact fun _ _ _ h => h) (by rfl) ?_) | (refine reg_take 4 (v := ?_) (by rfl) (by kernel_rfl) (by kernel_rfl) (by kernel_rfl) (by exact fun _ _ _ h => h) (by rfl) ?_ ?_; rotate_left; focus (intro w hSw; go_simp; try with_reducible rfl))
      simp only [Act.put, List.setIfInBounds_toArray, List.set_cons_zero, List.set_cons_succ]
      (refine reg_take 5 (v := ?_) (by rfl) (by kernel_rfl) (by kernel_rfl) (by kernel_rfl) (by exact fun _ _ _ h => h) (by rfl) ?_ ?_; rotate_left; focus (intro w hSw; go_simp; try with_reducible rfl))
      simp only [Act.put, List.setIfInBounds_toArray, List.set_cons_zero, List.set_cons_succ]
      (refine reg_take 6 (v := ?_) (by rfl) (by kernel_rfl) (by kernel_rfl) (by kernel_rfl) (by exact fun _ _ _ h => h) (by rfl) ?_ ?_; rotate_left; focus (intro w hSw; go_simp; try with_reducible rfl))
      simp only [Act.put, List.setIfInBounds_toArray, List.set_cons_zero, List.set_cons_succ]
      first | (refine reg_skip 7 (by rfl) (by kernel_rfl) (by kernel_rfl) (by kernel_rfl) (by exact fun _ _ _ h => h) (by rfl) ?_) | (refine reg_take 7 (v := ?_) (by rfl) (by kernel_rfl) (by kernel_rfl) (by kernel_rfl) (by exact fun _ _ _ h => h) (by rfl) ?_ ?_; rotate_left; focus (intro w hSw; go_simp; try with_reducible rfl))
      simp only [Act.put, List.setIfInBounds_toArray, List.set_cons_zero, List.set_cons_succ]
      first | (refine reg_skip 9 (by rfl) (by kernel_rfl) (by kernel_rfl) (by kernel_rfl) (by exact fun _ _ _ h => h) (by rfl) ?_) | (refine reg_take 9 (v := ?_) (by rfl) (by kernel_rfl) (by kernel_rfl) (by kernel_rfl) (by exact fun _ _ _ h => h) (by rfl) ?_ ?_; rotate_left; focus (intro w hSw; go_simp; try with_reducible rfl))
      simp only [Act.put, List.setIfInBounds_toArray, List.set_cons_zero, List.set_cons_succ]
      refine reg_call 8 (by kernel_rfl) (by rfl) (fun K hK => ?_)
      go_simp
      go_at_call 13; refine (tableOf_any (goesTb.after HT9.out (by repeat (first | exact Below.refl _ _ | assumption | refine Below.drew ?_ | refine below_drewN ?_ _ | refine Below.alloc ?_ (by first | (simp; done) | omega | (simp; omega)) _ | refine Below.setCell ?_ (by first | (simp; done) | omega | (simp; omega)) _))) HUS.out).mono ?_; rintro e10 w10 ⟨c10, q10, rfl, ht10, hb10⟩; have hb10' : Below w9.heap.size w9 w10 := Below.trans (by repeat (first | exact Below.refl _ _ | assumption | refine Below.drew ?_ | refine below_drewN ?_ _ | refine Below.alloc ?_ (by first | (simp; done) | omega | (simp; omega)) _ | refine Below.setCell ?_ (by first | (simp; done) | omega | (simp; omega)) _)) (hb10.mono (by simp))
      refine hK.out _ _ (hb10) ?_
      clear hK K
      try simp only [Act.put, List.setIfInBounds_toArray, List.set_cons_zero, List.set_cons_succ]
      refine reg_call 10 (by kernel_rfl) (by rfl) (fun K hK => ?_)
      go_simp
      go_at_call 12; refine (same10_any ht10 (goesRTb.after HR9.out hb10')).mono ?_; rintro e11 w11 ⟨rfl, hb11⟩; have hb11' : Below w9.heap.size w9 w11 := seqB hb10' hb11; have g0 := Aft.each (kcell hb11' (HU9.out.c 0 (.int .i64 u.count) rfl)); have g1 := Aft.each (kcell hb11' (HU9.out.c 1 (.slice XA cn Xc) rfl)); have g5 := Aft.each (kcell hb11' (HU9.out.c 5 (.slice YA qn Yc) rfl)); rw [HUC.out.1] at g0; have h0 := Aft.each (kcell hb11' (HX9.out.c 0 (.int .i64 t.count) rfl)); have h1 := Aft.each (kcell hb11' (HX9.out.c 1 (.slice cA cn cc) rfl)); have h5 := Aft.each (kcell hb11' (HX9.out.c 5 (.slice qA qn qc) rfl))
      refine hK.out _ _ (hb11) ?_
      clear hK K
      try simp only [Act.put, List.setIfInBounds_toArray, List.set_cons_zero, List.set_cons_succ]
      (refine reg_take 11 (v := ?_) (by rfl) (by kernel_rfl) (by kernel_rfl) (by kernel_rfl) (by exact fun _ _ _ h => h) (by rfl) ?_ ?_; rotate_left; focus (intro w hSw; go_simp; try with_reducible rfl))
      simp only [Act.put, List.setIfInBounds_toArray, List.set_cons_zero, List.set_cons_succ]
      (refine reg_take 12 (v := ?_) (by rfl) (by kernel_rfl) (by kernel_rfl) (by kernel_rfl) (by exact fun _ _ _ h => h) (by rfl) ?_ ?_; rotate_left; focus (intro w hSw; go_simp; try with_reducible rfl))
      simp only [Act.put, List.setIfInBounds_toArray, List.set_cons_zero, List.set_cons_succ]
      first | (refine reg_skip 13 (by rfl) (by kernel_rfl) (by kernel_rfl) (by kernel_rfl) (by exact fun _ _ _ h => h) (by rfl) ?_) | (refine reg_take 13 (v := ?_) (by rfl) (by kernel_rfl) (by kernel_rfl) (by kernel_rfl) (by exact fun _ _ _ h => h) (by rfl) ?_ ?_; rotate_left; focus (intro w hSw; go_simp; try with_reducible rfl))
      simp only [Act.put, List.setIfInBounds_toArray, List.set_cons_zero, List.set_cons_succ]
      first | (refine reg_skip 14 (by rfl) (by kernel_rfl) (by kernel_rfl) (by kernel_rfl) (by exact fun _ _ _ h => h) (by rfl) ?_) | (refine reg_take 14 (v := ?_) (by rfl) (by kernel_rfl) (by kernel_rfl) (by kernel_rfl) (by exact fun _ _ _ h => h) (by rfl) ?_ ?_; rotate_left; focus (intro w hSw; go_simp; try with_reducible rfl))
      simp only [Act.put, List.setIfInBounds_toArray, List.set_cons_zero, List.set_cons_succ]
      first | (refine reg_skip 15 (by rfl) (by kernel_rfl) (by kernel_rfl) (by kernel_rfl) (by exact fun _ _ _ h => h) (by rfl) ?_) | (refine reg_take 15 (v := ?_) (by rfl) (by kernel_rfl) (by kernel_rfl) (by kernel_rfl) (by exact fun _ _ _ h => h) (by rfl) ?_ ?_; rotate_left; focus (intro w hSw; go_simp; try with_reducible rfl))
      simp only [Act.put, List.setIfInBounds_toArray, List.set_cons_zero, List.set_cons_succ]
      first | (refine reg_skip 16 (by rfl) (by kernel_rfl) (by kernel_rfl) (by kernel_rfl) (by exact fun _ _ _ h => h) (by rfl) ?_) | (refine reg_take 16 (v := ?_) (by rfl) (by kernel_rfl) (by kernel_rfl) (by kernel_rfl) (by exact fun _ _ _ h => h) (by rfl) ?_ ?_; rotate_left; focus (intro w hSw; go_simp; try with_reducible rfl))
      simp only [Act.put, List.setIfInBounds_toArray, List.set_cons_zero, List.set_cons_succ]
      first | (refine reg_skip 17 (by rfl) (by kernel_rfl) (by kernel_rfl) (by kernel_rfl) (by exact fun _ _ _ h => h) (by rfl) ?_) | (refine reg_take 17 (v := ?_) (by rfl) (by kernel_rfl) (by kernel_rfl) (by kernel_rfl) (by exact fun _ _ _ h => h) (by rfl) ?_ ?_; rotate_left; focus (intro w hSw; go_simp; try with_reducible rfl))
      simp only [Act.put, List.setIfInBounds_toArray, List.set_cons_zero, List.set_cons_succ]
      (refine reg_take 18 (v := ?_) (by rfl) (by kernel_rfl) (by kernel_rfl) (by kernel_rfl) (by exact fun _ _ _ h => h) (by rfl) ?_ ?_; rotate_left; focus (intro w hSw; go_simp; try with_reducible rfl))
      simp only [Act.put, List.setIfInBounds_toArray, List.set_cons_zero, List.set_cons_succ]
      (refine reg_take 19 (v := ?_) (by rfl) (by kernel_rfl) (by kernel_rfl) (by kernel_rfl) (by exact fun _ _ _ h => h) (by rfl) ?_ ?_; rotate_left; focus (intro w hSw; go_simp; try with_reducible rfl))
      simp only [Act.put, List.setIfInBounds_toArray, List.set_cons_zero, List.set_cons_succ]
      first | (refine reg_skip 20 (by rfl) (by kernel_rfl) (by kernel_rfl) (by kernel_rfl) (by exact fun _ _ _ h => h) (by rfl) ?_) | (refine reg_take 20 (v := ?_) (by rfl) (by kernel_rfl) (by kernel_rfl) (by kernel_rfl) (by exact fun _ _ _ h => h) (by rfl) ?_ ?_; rotate_left; focus (intro w hSw; go_simp; try with_reducible rfl))
      simp only [Act.put, List.setIfInBounds_toArray, List.set_cons_zero, List.set_cons_succ]
      first | (refine reg_skip 21 (by rfl) (by kernel_rfl) (by kernel_rfl) (by kernel_rfl) (by exact fun _ _ _ h => h) (by rfl) ?_) | (refine reg_take 21 (v := ?_) (by rfl) (by kernel_rfl) (by kernel_rfl) (by kernel_rfl) (by exact fun _ _ _ h => h) (by rfl) ?_ ?_; rotate_left; focus (intro w hSw; go_simp; try with_reducible rfl))
      simp only [Act.put, List.setIfInBounds_toArray, List.set_cons_zero, List.set_cons_succ]
      first | (refine reg_skip 22 (by rfl) (by kernel_rfl) (by kernel_rfl) (by kernel_rfl) (by exact fun _ _ _ h => h) (by rfl) ?_) | (refine reg_take 22 (v := ?_) (by rfl) (by kernel_rfl) (by kernel_rfl) (by kernel_rfl) (by exact fun _ _ _ h => h) (by rfl) ?_ ?_; rotate_left; focus (intro w hSw; go_simp; try with_reducible rfl))
      simp only [Act.put, List.setIfInBounds_toArray, List.set_cons_zero, List.set_cons_succ]
      first | (refine reg_skip 23 (by rfl) (by kernel_rfl) (by kernel_rfl) (by kernel_rfl) (by exact fun _ _ _ h => h) (by rfl) ?_) | (refine reg_take 23 (v := ?_) (by rfl) (by kernel_rfl) (by kernel_rfl) (by kernel_rfl) (by exact fun _ _ _ h => h) (by rfl) ?_ ?_; rotate_left; focus (intro w hSw; go_simp; try with_reducible rfl))
      simp only [Act.put, List.setIfInBounds_toArray, List.set_cons_zero, List.set_cons_succ]
      first | (refine reg_skip 24 (by rfl) (by kernel_rfl) (by kernel_rfl) (by kernel_rfl) (by exact fun _ _ _ h => h) (by rfl) ?_) | (refine reg_take 24 (v := ?_) (by rfl) (by kernel_rfl) (by kernel_rfl) (by kernel_rfl) (by exact fun _ _ _ h => h) (by rfl) ?_ ?_; rotate_left; focus (intro w hSw; go_simp; try with_reducible rfl))
      simp only [Act.put, List.setIfInBounds_toArray, List.set_cons_zero, List.set_cons_succ]
      first | (refine reg_skip 25 (by rfl) (by kernel_rfl) (by kernel_rfl) (by kernel_rfl) (by exact fun _ _ _ h => h) (by rfl) ?_) | (refine reg_take 25 (v := ?_) (by rfl) (by kernel_rfl) (by kernel_rfl) (by kernel_rfl) (by exact fun _ _ _ h => h) (by rfl) ?_ ?_; rotate_left; focus (intro w hSw; go_simp; try with_reducible rfl))
      simp only [Act.put, List.setIfInBounds_toArray, List.set_cons_zero, List.set_cons_succ]
      first | (refine reg_skip 26 (by rfl) (by kernel_rfl) (by kernel_rfl) (by kernel_rfl) (by exact fun _ _ _ h => h) (by rfl) ?_) | (refine reg_take 26 (v := ?_) (by rfl) (by kernel_rfl) (by kernel_rfl) (by kernel_rfl) (by exact fun _ _ _ h => h) (by rfl) ?_ ?_; rotate_left; focus (intro w hSw; go_simp; try with_reducible rfl))
      simp only [Act.put, List.setIfInBounds_toArray, List.set_cons_zero, List.set_cons_succ]
      (refine reg_take 27 (v := ?_) (by rfl) (by kernel_rfl) (by kernel_rfl) (by kernel_rfl) (by exact fun _ _ _ h => h) (by rfl) ?_ ?_; rotate_left; focus (intro w hSw; go_simp; try with_reducible rfl))
      simp only [Act.put, List.setIfInBounds_toArray, List.set_cons_zero, List.set_cons_succ]
      (refine reg_take 28 (v := ?_) (by rfl) (by kernel_rfl) (by kernel_rfl) (by kernel_rfl) (by exact fun _ _ _ h => h) (by rfl) ?_ ?_; rotate_left; focus (intro w hSw; go_simp; try with_reducible rfl))
      simp only [Act.put, List.setIfInBounds_toArray, List.set_cons_zero, List.set_cons_succ]
      first | (refine reg_skip 29 (by rfl) (by kernel_rfl) (by kernel_rfl) (by kernel_rfl) (by exact fun _ _ _ h => h) (by rfl) ?_) | (refine reg_take 29 (v := ?_) (by rfl) (by kernel_rfl) (by kernel_rfl) (by kernel_rfl) (by exact fun _ _ _ h => h) (by rfl) ?_ ?_; rotate_left; focus (intro w hSw; go_simp; try with_reducible rfl))
      simp only [Act.put, List.setIfInBounds_toArray, List.set_cons_zero, List.set_cons_succ]
      first | (refine reg_skip 30 (by rfl) (by kernel_rfl) (by kernel_rfl) (by kernel_rfl) (by exact fun _ _ _ h => h) (by rfl) ?_) | (refine reg_take 30 (v := ?_) (by rfl) (by kernel_rfl) (by kernel_rfl) (by kernel_rfl) (by exact fun _ _ _ h => h) (by rfl) ?_ ?_; rotate_left; focus (intro w hSw; go_simp; try with_reducible rfl))
      simp only [Act.put, List.setIfInBounds_toArray, List.set_cons_zero, List.set_cons_succ]
      first | (refine reg_skip 31 (by rfl) (by kernel_rfl) (by kernel_rfl) (by kernel_rfl) (by exact fun _ _ _ h => h) (by rfl) ?_) | (refine reg_take 31 (v := ?_) (by rfl) (by kernel_rfl) (by kernel_rfl) (by kernel_rfl) (by exact fun _ _ _ h => h) (by rfl) ?_ ?_; rotate_left; focus (intro w hSw; go_simp; try with_reducible rfl))
      simp only [Act.put, List.setIfInBounds_toArray, List.set_cons_zero, List.set_cons_succ]
      first | (refine reg_skip 32 (by rfl) (by kernel_rfl) (by kernel_rfl) (by kernel_rfl) (by exact fun _ _ _ h => h) (by rfl) ?_) | (refine reg_take 32 (v := ?_) (by rfl) (by kernel_rfl) (by kernel_rfl) (by kernel_rfl) (by exact fun _ _ _ h => h) (by rfl) ?_ ?_; rotate_left; focus (intro w hSw; go_simp; try with_reducible rfl))
      simp only [Act.put, List.setIfInBounds_toArray, List.set_cons_zero, List.set_cons_succ]
      first | (refine reg_skip 33 (by rfl) (by kernel_rfl) (by kernel_rfl) (by kernel_rfl) (by exact fun _ _ _ h => h) (by rfl) ?_) | (refine reg_take 33 (v := ?_) (by rfl) (by kernel_rfl) (by kernel_rfl) (by kernel_rfl) (by exact fun _ _ _ h => h) (by rfl) ?_ ?_; rotate_left; focus (intro w hSw; go_simp; try with_reducible rfl))
      simp only [Act.put, List.setIfInBounds_toArray, List.set_cons_zero, List.set_cons_succ]
      first | (refine reg_skip 34 (by rfl) (by kernel_rfl) (by kernel_rfl) (by kernel_rfl) (by exact fun _ _ _ h => h) (by rfl) ?_) | (refine reg_take 34 (v := ?_) (by rfl) (by kernel_rfl) (by kernel_rfl) (by kernel_rfl) (by exact fun _ _ _ h => h) (by rfl) ?_ ?_; rotate_left; focus (intro w hSw; go_simp; try with_reducible rfl))
      simp only [Act.put, List.setIfInBounds_toArray, List.set_cons_zero, List.set_cons_succ]
      first | (refine reg_skip 35 (by rfl) (by kernel_rfl) (by kernel_rfl) (by kernel_rfl) (by exact fun _ _ _ h => h) (by rfl) ?_) | (refine reg_take 35 (v := ?_) (by rfl) (by kernel_rfl) (by kernel_rfl) (by kernel_rfl) (by exact fun _ _ _ h => h) (by rfl) ?_ ?_; rotate_left; focus (intro w hSw; go_simp; try with_reducible rfl))
      simp only [Act.put, List.setIfInBounds_toArray, List.set_cons_zero, List.set_cons_succ]
      (refine reg_take 36 (v := ?_) (by rfl) (by kernel_rfl) (by kernel_rfl) (by kernel_rfl) (by exact fun _ _ _ h => h) (by rfl) ?_ ?_; rotate_left; focus (intro w hSw; go_simp; try with_reducible rfl))
      simp only [Act.put, List.setIfInBounds_toArray, List.set_cons_zero, List.set_cons_succ]
      (refine reg_take 37 (v := ?_) (by rfl) (by kernel_rfl) (by kernel_rfl) (by kernel_rfl) (by exact fun _ _ _ h => h) (by rfl) ?_ ?_; rotate_left; focus (intro w hSw; go_simp; try with_reducible rfl))
      simp only [Act.put, List.setIfInBounds_toArray, List.set_cons_zero, List.set_cons_succ]
      refine wpAnyH_done (by kernel_rfl) ?_ _
      have HBF := Lib.hid (HB9.out.trans (hb11'.mono HB9.out.size))
      clear hb10 hb10' hb11 hb11' ht10 e0 e1 e2 e3 e4 e5 f0 f1 f2 f3 f4 f5 g0 g1 g5 h0 h1 h5
      go_wp2_with fail
      go_ret
      exact ⟨rfl, HBF.out⟩
end Go.Proofs.Sb
