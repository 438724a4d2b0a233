/- The walk over signalboxlaw10.RowsGets: true, and nothing that was there has turned. Conditions: the table of names reads as it was laid. -/
import Derived.Test.YtenhgcgdhaegaaaDoorAwake10
import Derived.Test.YtenhgcgdhaegaaaDoorTrn
import Derived.Test.YtenhgcgdhaegaaaDoorTrg
set_option linter.unusedVariables false
set_option linter.unusedSimpArgs false
namespace Go.Proofs.Sb
open Go.RowKit _root_.Sb
set_option maxHeartbeats 8000000 in
set_option maxRecDepth 100000 in
theorem rowsGets_any {S : Nat → Prop} {A : Option Addr} {n c : Nat} {bs : B} {w : World} (hs : Sl S w A n c bs) (hpl : Pl w) :
    Calls Tryd.prog 3 #[.slice A n c] w fun e w' => e = .returned (.bool true) ∧ Below w.heap.size w w' := by
  have HS := Lib.hid hs; clear hs
  have HPL := Lib.hid hpl; clear hpl
  go_enter Tryd.func3, Tryd.ntmps3
  go_wp2_with fail
  refine (awake10 HPL.out).mono ?_
  rintro e w1 ⟨rfl, hb1⟩
  have HB1 := Lib.hid hb1; clear hb1
  by_cases hlen : 2000 < n
  · go_wp2_with fail
    go_ret
    exact ⟨rfl, HB1.out⟩
  · go_wp2_with fail
    refine (tGet_any (HS.out.after HB1.out) (by omega) (HPL.out.after HB1.out)).mono ?_
    rintro e w2 ⟨c1, d1, q1, rfl, ht2, hb2⟩
    obtain ⟨t, ht⟩ : ∃ t, t = eV Tb.none (getTb bs) := ⟨_, rfl⟩
    obtain ⟨er, her⟩ : ∃ er, er = eE (getTb bs) := ⟨_, rfl⟩
    have HSM : Hid (TbSm t) := Lib.hid (ht ▸ got_sm bs)
    rw [← ht] at ht2 ⊢
    rw [← her]
    have HT2 := Lib.hid ht2
    have HEQ := Lib.hid ht
    have HER := Lib.hid her
    have HB2 := Lib.hid (HB1.out.trans (hb2.mono HB1.out.size))
    clear ht2 hb2 HB1 ht her
    go_upto_region 7 with (first | (refine wpList_store_newB (by rfl) 29 _ _ (by rfl) _ _ _ _ (by rfl) (by rfl) (by simp) (by rfl) (by kernel_rfl) (by rfl) (by rfl) ?_; intro w3 hb3 hz3 hx3))
    obtain ⟨X, hX⟩ : ∃ X, X = w2.heap.size := ⟨_, rfl⟩
    rw [← hX]
    have HX3 : Hid (Bx (fun b => b = X) w3 X (tabV t c1 d1 q1)) := Lib.hid (hX ▸ hx3)
    have HT3 := Lib.hid (goesTb.after HT2.out hb3)
    have HB3 := Lib.hid (HB2.out.trans (hb3.mono HB2.out.size))
    clear hx3 hb3 hz3 hX HT2 HB2
    go_wp2_with fail
    refine (rGet10_any (HS.out.after HB3.out) (by omega)).mono ?_
    rintro e w4 ⟨c2, q2, rfl, ht4, hb4⟩
    rw [← HEQ.out] at ht4 ⊢
    rw [← HER.out]
    have HR4 := Lib.hid ht4
    have HX4 := Lib.hid (goesBx.after HX3.out hb4)
    have HT4 := Lib.hid (goesTb.after HT3.out hb4)
    have HB4 := Lib.hid (HB3.out.trans (hb4.mono HB3.out.size))
    clear ht4 hb4 HX3 HT3 HB3 HEQ HER
    go_upto_region 8 with (first | (refine wpList_store_newB (by rfl) 38 _ _ (by rfl) _ _ _ _ (by rfl) (by rfl) (by simp) (by rfl) (by kernel_rfl) (by rfl) (by rfl) ?_; intro w5 hb5 hz5 hx5))
    obtain ⟨Y, hY⟩ : ∃ Y, Y = w4.heap.size := ⟨_, rfl⟩
    rw [← hY]
    have HY5 : Hid (Bx (fun b => b = Y) w5 Y (rTV t c2 q2)) := Lib.hid (hY ▸ hx5)
    have HX5 := Lib.hid (goesBx.after HX4.out hb5)
    have HT5 := Lib.hid (goesTb.after HT4.out hb5)
    have HR5 := Lib.hid (goesRTb.after HR4.out hb5)
    have HB5 := Lib.hid (HB4.out.trans (hb5.mono HB4.out.size))
    clear hx5 hb5 hz5 hY HX4 HT4 HR4 HB4
    have hdr : Below w5.heap.size w5 w5.drew := (Below.refl _ _).drew
    have e0 := Aft.each (kcell hdr (HX5.out.c 0 (.int .i64 t.count) rfl))
    have e1 := Aft.each (kcell hdr (HX5.out.c 1 (.slice c1.1 c1.2.1 c1.2.2) rfl))
    have e2 := Aft.each (kcell hdr (HX5.out.c 2 (.bool t.more) rfl))
    have e3 := Aft.each (kcell hdr (HX5.out.c 3 (.int .i64 t.state.kind) rfl))
    have e4 := Aft.each (kcell hdr (HX5.out.c 4 (.slice d1.1 d1.2.1 d1.2.2) rfl))
    have e5 := Aft.each (kcell hdr (HX5.out.c 5 (.slice q1.1 q1.2.1 q1.2.2) rfl))
    have f0 := Aft.each (kcell hdr (HY5.out.c 0 (.int .i64 t.count) rfl))
    have f1 := Aft.each (kcell hdr (HY5.out.c 1 (.slice c2.1 c2.2.1 c2.2.2) rfl))
    have f2 := Aft.each (kcell hdr (HY5.out.c 2 (.bool t.more) rfl))
    have f3 := Aft.each (kcell hdr (HY5.out.c 3 (.int .i64 t.state.kind) rfl))
    have f4 := Aft.each (kcell hdr (HY5.out.c 4 (.string (str t.state.bytes)) rfl))
    have f5 := Aft.each (kcell hdr (HY5.out.c 5 (.slice q2.1 q2.2.1 q2.2.2) rfl))
    clear hdr
    refine reg_start (by kernel_rfl) ?_
    (refine reg_take 0 (v := ?_) (by rfl) (by kernel_rfl) (by kernel_rfl) (by kernel_rfl) (by exact fun _ _ _ h => h) (by rfl) ?_ ?_; rotate_left; focus (intro w hSw; go_simp; try with_reducible rfl))
    simp only [Act.put, List.setIfInBounds_toArray, List.set_cons_zero, List.set_cons_succ]
    (refine reg_take 1 (v := ?_) (by rfl) (by kernel_rfl) (by kernel_rfl) (by kernel_rfl) (by exact fun _ _ _ h => h) (by rfl) ?_ ?_; rotate_left; focus (intro w hSw; go_simp; try with_reducible rfl))
    simp only [Act.put, List.setIfInBounds_toArray, List.set_cons_zero, List.set_cons_succ]
    (refine reg_take 2 (v := ?_) (by rfl) (by kernel_rfl) (by kernel_rfl) (by kernel_rfl) (by exact fun _ _ _ h => h) (by rfl) ?_ ?_; rotate_left; focus (intro w hSw; go_simp; try with_reducible rfl))
    simp only [Act.put, List.setIfInBounds_toArray, List.set_cons_zero, List.set_cons_succ]
    (refine reg_take 3 (v := ?_) (by rfl) (by kernel_rfl) (by kernel_rfl) (by kernel_rfl) (by exact fun _ _ _ h => h) (by rfl) ?_ ?_; rotate_left; focus (intro w hSw; go_simp; try with_reducible rfl))
    simp only [Act.put, List.setIfInBounds_toArray, List.set_cons_zero, List.set_cons_succ]
    first | (refine reg_skip 4 (by rfl) (by kernel_rfl) (by kernel_rfl) (by kernel_rfl) (by exact fun _ _ _ h => h) (by rfl) ?_) | (refine reg_take 4 (v := ?_) (by rfl) (by kernel_rfl) (by kernel_rfl) (by kernel_rfl) (by exact fun _ _ _ h => h) (by rfl) ?_ ?_; rotate_left; focus (intro w hSw; go_simp; try with_reducible rfl))
    simp only [Act.put, List.setIfInBounds_toArray, List.set_cons_zero, List.set_cons_succ]
    first | (refine reg_skip 6 (by rfl) (by kernel_rfl) (by kernel_rfl) (by kernel_rfl) (by exact fun _ _ _ h => h) (by rfl) ?_) | (refine reg_take 6 (v := ?_) (by rfl) (by kernel_rfl) (by kernel_rfl) (by kernel_rfl) (by exact fun _ _ _ h => h) (by rfl) ?_ ?_; rotate_left; focus (intro w hSw; go_simp; try with_reducible rfl))
    simp only [Act.put, List.setIfInBounds_toArray, List.set_cons_zero, List.set_cons_succ]
    refine reg_call 5 (by kernel_rfl) (by rfl) (fun K hK => ?_)
    go_simp
    go_at_call 13; refine (tableOf_any (goesTb.after HT5.out (by repeat (first | exact Below.refl _ _ | assumption | refine Below.drew ?_ | refine below_drewN ?_ _ | refine Below.alloc ?_ (by first | (simp; done) | omega | (simp; omega)) _ | refine Below.setCell ?_ (by first | (simp; done) | omega | (simp; omega)) _))) HSM.out).mono ?_; rintro e6 w6 ⟨c6, q6, rfl, ht6, hb6⟩; have hb6' : Below w5.heap.size w5 w6 := Below.trans (by repeat (first | exact Below.refl _ _ | assumption | refine Below.drew ?_ | refine below_drewN ?_ _ | refine Below.alloc ?_ (by first | (simp; done) | omega | (simp; omega)) _ | refine Below.setCell ?_ (by first | (simp; done) | omega | (simp; omega)) _)) (hb6.mono (by simp)); replace f0 := fun w' (h : Aft w6 w') => f0 w' (Below.trans hb6 (h.mono hb6.size)); replace f1 := fun w' (h : Aft w6 w') => f1 w' (Below.trans hb6 (h.mono hb6.size)); replace f2 := fun w' (h : Aft w6 w') => f2 w' (Below.trans hb6 (h.mono hb6.size)); replace f3 := fun w' (h : Aft w6 w') => f3 w' (Below.trans hb6 (h.mono hb6.size)); replace f4 := fun w' (h : Aft w6 w') => f4 w' (Below.trans hb6 (h.mono hb6.size)); replace f5 := fun w' (h : Aft w6 w') => f5 w' (Below.trans hb6 (h.mono hb6.size))
    refine hK.out _ _ (hb6) ?_
    clear hK K
    try simp only [Act.put, List.setIfInBounds_toArray, List.set_cons_zero, List.set_cons_succ]
    refine reg_call 7 (by kernel_rfl) (by rfl) (fun K hK => ?_)
    go_simp
    go_at_call 12; refine (same10_any ht6 (goesRTb.after HR5.out hb6')).mono ?_; rintro e7 w7 ⟨rfl, hb7⟩
    refine hK.out _ _ (hb7) ?_
    clear hK K
    try simp only [Act.put, List.setIfInBounds_toArray, List.set_cons_zero, List.set_cons_succ]
    (refine reg_take 8 (v := ?_) (by rfl) (by kernel_rfl) (by kernel_rfl) (by kernel_rfl) (by exact fun _ _ _ h => h) (by rfl) ?_ ?_; rotate_left; focus (intro w hSw; go_simp; try with_reducible rfl))
    simp only [Act.put, List.setIfInBounds_toArray, List.set_cons_zero, List.set_cons_succ]
    (refine reg_take 9 (v := ?_) (by rfl) (by kernel_rfl) (by kernel_rfl) (by kernel_rfl) (by exact fun _ _ _ h => h) (by rfl) ?_ ?_; rotate_left; focus (intro w hSw; go_simp; try with_reducible rfl))
    simp only [Act.put, List.setIfInBounds_toArray, List.set_cons_zero, List.set_cons_succ]
    refine wpAnyH_done (by kernel_rfl) ?_ _
    have HBF := Lib.hid (HB5.out.trans ((hb6'.trans (hb7.mono hb6'.size)).mono HB5.out.size))
    clear e0 e1 e2 e3 e4 e5 f0 f1 f2 f3 f4 f5
    go_wp2_with fail
    go_ret
    exact ⟨rfl, HBF.out⟩
end Go.Proofs.Sb
