/- The walk over signalboxlaw10.RowsMetas: true, and nothing that was there has turned. Conditions: the table of names reads as it was laid. (written by gen_ltm.py) -/
import Derived.Test.YtenhgcgdhaegaaaDoorAwake10
import Derived.Test.YtenhgcgdhaegaaaDoorTrn
import Derived.Test.YtenhgcgdhaegaaaDoorTrg
import Derived.Test.YtenhgcgdhaegaaaDoorTre
set_option linter.unusedVariables false
set_option linter.unusedSimpArgs false
namespace Go.Proofs.Sb
open Go.RowKit _root_.Sb
set_option maxHeartbeats 8000000 in
set_option maxRecDepth 100000 in
theorem rowsMetas_any {S : Nat → Prop} {A : Option Addr} {n c : Nat} {bs : B} {w : World} (hs : Sl S w A n c bs) (hpl : Pl w) :
    Calls Tryd.prog 4 #[.slice A n c] w fun e w' => e = .returned (.bool true) ∧ Below w.heap.size w w' := by
  have HS := Lib.hid hs; clear hs
  have HPL := Lib.hid hpl; clear hpl
  go_enter Tryd.func4, Tryd.ntmps4
  go_wp2_with fail
  refine (awake10 HPL.out).mono ?_
  rintro e w1 ⟨rfl, hb1⟩
  have HB1 := Lib.hid hb1; clear hb1
  by_cases hlen : 2000 < n
  · go_wp2_with fail
    go_ret
    exact ⟨rfl, HB1.out⟩
  · go_wp2_with fail
    refine (tMeta_any (HS.out.after HB1.out) (by omega) (HPL.out.after HB1.out)).mono ?_
    rintro e w2 ⟨a, c1, d1, c2, d2, rfl, hk2, ht2, hu2, hb2⟩
    obtain ⟨l, hl⟩ : ∃ l, l = (eV mNone (getMeta bs)).1 := ⟨_, rfl⟩
    obtain ⟨t1, ht1⟩ : ∃ t, t = (eV mNone (getMeta bs)).2.1 := ⟨_, rfl⟩
    obtain ⟨t2, ht2'⟩ : ∃ t, t = (eV mNone (getMeta bs)).2.2 := ⟨_, rfl⟩
    obtain ⟨er, her⟩ : ∃ er, er = eE (getMeta bs) := ⟨_, rfl⟩
    have HSM : Hid (TbSm t1 ∧ TbSm t2) := Lib.hid (ht1 ▸ ht2' ▸ ⟨(meta_sm bs).1, (meta_sm bs).2.1⟩)
    rw [← hl] at hk2
    rw [← ht1] at ht2 ⊢
    rw [← ht2'] at hu2 ⊢
    rw [← her]
    have HK2 := Lib.hid hk2
    have HT2 := Lib.hid ht2
    have HU2 := Lib.hid hu2
    have HEQ1 := Lib.hid ht1
    have HEQ2 := Lib.hid ht2'
    have HEQL := Lib.hid hl
    have HER := Lib.hid her
    have HB2 := Lib.hid (HB1.out.trans (hb2.mono HB1.out.size))
    clear hk2 ht2 hu2 hb2 HB1 ht1 ht2' hl her
    go_upto_region 7 with (first | (refine wpList_store_newB (by rfl) 46 _ _ (by rfl) _ _ _ _ (by rfl) (by rfl) (by simp) (by rfl) (by kernel_rfl) (by rfl) (by rfl) ?_; intro w3 hb3 hz3 hx3))
    obtain ⟨X, hX⟩ : ∃ X, X = w2.heap.size := ⟨_, rfl⟩
    rw [← hX]
    have HX3 : Hid (Bx (fun b => b = X) w3 X (metaV t1 t2 a c1 d1 Pl3.none c2 d2 Pl3.none)) := Lib.hid (hX ▸ hx3)
    have HK3 := Lib.hid (goesArr.after HK2.out hb3)
    have HT3 := Lib.hid (goesTb.after HT2.out hb3)
    have HU3 := Lib.hid (goesTb.after HU2.out hb3)
    have HB3 := Lib.hid (HB2.out.trans (hb3.mono HB2.out.size))
    clear hx3 hb3 hz3 hX HK2 HT2 HU2 HB2
    go_wp2_with fail
    refine (rMeta10_any (HS.out.after HB3.out) (by omega)).mono ?_
    rintro e w4 ⟨a2, c3, c4, rfl, hk4, ht4, hu4, hb4⟩
    rw [← HEQL.out] at hk4
    rw [← HEQ1.out] at ht4 ⊢
    rw [← HEQ2.out] at hu4 ⊢
    rw [← HER.out]
    have HK4 := Lib.hid (goesArr.after HK3.out hb4)
    have HL4 := Lib.hid hk4
    have HR4 := Lib.hid ht4
    have HQ4 := Lib.hid hu4
    have HX4 := Lib.hid (goesBx.after HX3.out hb4)
    have HT4 := Lib.hid (goesTb.after HT3.out hb4)
    have HU4 := Lib.hid (goesTb.after HU3.out hb4)
    have HB4 := Lib.hid (HB3.out.trans (hb4.mono HB3.out.size))
    clear hk4 ht4 hu4 hb4 HX3 HK3 HT3 HU3 HB3 HEQ1 HEQ2 HEQL HER
    obtain ⟨W, hW⟩ : ∃ W, W = (w4.alloc (.cells #[.int .i64 0, .slice none 0 0, .bool false, .int .i64 0, .string ⟨#[]⟩, .slice none 0 0] 38)).alloc (.cells #[.int .i64 0, .slice none 0 0, .bool false, .int .i64 0, .string ⟨#[]⟩, .slice none 0 0] 38) := ⟨_, rfl⟩
    have HW4 : Hid (Below w4.heap.size w4 W) := Lib.hid (by rw [hW]; exact ((Below.refl _ _).alloc (Nat.le_refl _) _).alloc (by simp) _)
    have HP4 : Hid (Bx (fun b => b = w4.heap.size) W w4.heap.size zR) := Lib.hid (by
      rw [hW]
      exact goesBx.after (Bx.alloc w4 zR.toArray 38 (S := fun b => b = w4.heap.size) rfl rfl) ((Below.refl _ _).alloc (Nat.le_refl _) _))
    have HQ4b : Hid (Bx (fun b => b = w4.heap.size + 1) W (w4.heap.size + 1) zR) := Lib.hid (by
      rw [hW]
      exact Bx.alloc (w4.alloc _) zR.toArray 38 (S := fun b => b = w4.heap.size + 1) (by simp) (by simp))
    have HWE := Lib.hid hW; clear hW
    go_upto_region 8 with (first | (rw [← HWE.out]; refine wpList_storeB HP4.out (by rfl) 38 _ _ (by rfl) 0 (rTV t1 c3 Pl3.none) (by rfl) (by rfl) (by kernel_rfl) (by show 0 + 6 ≤ 6; decide) (by rfl) ?_; intro w5 hx5 hg5; have HP5 := Lib.hid hx5; have HG5 := Lib.hid hg5; have HQ5 := Lib.hid (goesBx.grown HQ4b.out hg5 (fun b e => by omega)); clear hx5 hg5) | (refine wpList_storeB HQ5.out (by rfl) 38 _ _ (by rfl) 0 (rTV t2 c4 Pl3.none) (by rfl) (by rfl) (by kernel_rfl) (by show 0 + 6 ≤ 6; decide) (by rfl) ?_; intro w6 hx6 hg6; have HQ6 := Lib.hid hx6; have HG6 := Lib.hid hg6; have HP6 := Lib.hid (goesBx.grown HP5.out hg6 (fun b e => by omega)); clear hx6 hg6))
    have hbg : Below w4.heap.size w4 w6 := Below.grown1 (Below.grown1 HW4.out HG5.out HW4.out.size (Nat.le_refl _)) HG6.out (Below.grown1 HW4.out HG5.out HW4.out.size (Nat.le_refl _)).size (by omega)
    have HK6 := Lib.hid (goesArr.after HK4.out hbg)
    have HL6 := Lib.hid (goesArr.after HL4.out hbg)
    have HR6 := Lib.hid (goesRTb.after HR4.out hbg)
    have HS6 := Lib.hid (goesRTb.after HQ4.out hbg)
    have HX6 := Lib.hid (goesBx.after HX4.out hbg)
    have HT6 := Lib.hid (goesTb.after HT4.out hbg)
    have HU6 := Lib.hid (goesTb.after HU4.out hbg)
    have HB6 := Lib.hid (HB4.out.trans (hbg.mono HB4.out.size))
    obtain ⟨P, hP⟩ : ∃ P, P = w4.heap.size := ⟨_, rfl⟩
    rw [← hP] at HP6 HQ6 ⊢
    clear hbg hP HK4 HL4 HR4 HQ4 HX4 HT4 HU4 HB4 HP5 HQ5 HG5 HG6 HP4 HQ4b HW4 HWE
    obtain ⟨aA, an, ac⟩ := a
    obtain ⟨bA, bn, bc⟩ := a2
    obtain rfl : an = bn := by have h1 := HK6.out.len; have h2 := HL6.out.len; dsimp only at h1 h2; omega
    have hac1 := HK6.out.cap
    have hac2 := HK6.out.capMax
    have hbc1 := HL6.out.cap
    have hbc2 := HL6.out.capMax
    dsimp only at hac1 hac2 hbc1 hbc2
    have HKL := Lib.hid HK6.out.len
    dsimp only at HKL
    have hdr : Below w6.heap.size w6 w6.drew := (Below.refl _ _).drew
    have m0 := Aft.each (kcell hdr (HX6.out.c 0 (.slice aA an ac) rfl))
    have e0 := Aft.each (kcell hdr (HX6.out.c 1 (.int .i64 t1.count) rfl))
    have e1 := Aft.each (kcell hdr (HX6.out.c 2 (.slice c1.1 c1.2.1 c1.2.2) rfl))
    have e2 := Aft.each (kcell hdr (HX6.out.c 3 (.bool t1.more) rfl))
    have e3 := Aft.each (kcell hdr (HX6.out.c 4 (.int .i64 t1.state.kind) rfl))
    have e4 := Aft.each (kcell hdr (HX6.out.c 5 (.slice d1.1 d1.2.1 d1.2.2) rfl))
    have e5 := Aft.each (kcell hdr (HX6.out.c 6 (.slice none 0 0) rfl))
    have f0 := Aft.each (kcell hdr (HP6.out.c 0 (.int .i64 t1.count) rfl))
    have f1 := Aft.each (kcell hdr (HP6.out.c 1 (.slice c3.1 c3.2.1 c3.2.2) rfl))
    have f2 := Aft.each (kcell hdr (HP6.out.c 2 (.bool t1.more) rfl))
    have f3 := Aft.each (kcell hdr (HP6.out.c 3 (.int .i64 t1.state.kind) rfl))
    have f4 := Aft.each (kcell hdr (HP6.out.c 4 (.string (str t1.state.bytes)) rfl))
    have f5 := Aft.each (kcell hdr (HP6.out.c 5 (.slice none 0 0) rfl))
    clear hdr
    refine reg_start (by kernel_rfl) ?_
    (refine reg_take 0 (v := ?_) (by rfl) (by kernel_rfl) (by kernel_rfl) (by kernel_rfl) (by exact fun _ _ _ h => h) (by rfl) ?_ ?_; rotate_left; focus (intro w hSw; go_simp; try with_reducible rfl))
    simp only [Act.put, List.setIfInBounds_toArray, List.set_cons_zero, List.set_cons_succ]
    (refine reg_take 1 (v := ?_) (by rfl) (by kernel_rfl) (by kernel_rfl) (by kernel_rfl) (by exact fun _ _ _ h => h) (by rfl) ?_ ?_; rotate_left; focus (intro w hSw; go_simp; try with_reducible rfl))
    simp only [Act.put, List.setIfInBounds_toArray, List.set_cons_zero, List.set_cons_succ]
    (refine reg_take 2 (v := ?_) (by rfl) (by kernel_rfl) (by kernel_rfl) (by kernel_rfl) (by exact fun _ _ _ h => h) (by rfl) ?_ ?_; rotate_left; focus (intro w hSw; go_simp; try with_reducible rfl))
    simp only [Act.put, List.setIfInBounds_toArray, List.set_cons_zero, List.set_cons_succ]
    (refine reg_take 3 (v := ?_) (by rfl) (by kernel_rfl) (by kernel_rfl) (by kernel_rfl) (by exact fun _ _ _ h => h) (by rfl) ?_ ?_; rotate_left; focus (intro w hSw; go_simp; try with_reducible rfl))
    simp only [Act.put, List.setIfInBounds_toArray, List.set_cons_zero, List.set_cons_succ]
    first | (refine reg_skip 4 (by rfl) (by kernel_rfl) (by kernel_rfl) (by kernel_rfl) (by exact fun _ _ _ h => h) (by rfl) ?_) | (refine reg_take 4 (v := ?_) (by rfl) (by kernel_rfl) (by kernel_rfl) (by kernel_rfl) (by exact fun _ _ _ h => h) (by rfl) ?_ ?_; rotate_left; focus (intro w hSw; go_simp; try with_reducible rfl))
    simp only [Act.put, List.setIfInBounds_toArray, List.set_cons_zero, List.set_cons_succ]
    first | (refine reg_skip 5 (by rfl) (by kernel_rfl) (by kernel_rfl) (by kernel_rfl) (by exact fun _ _ _ h => h) (by rfl) ?_) | (refine reg_take 5 (v := ?_) (by rfl) (by kernel_rfl) (by kernel_rfl) (by kernel_rfl) (by exact fun _ _ _ h => h) (by rfl) ?_ ?_; rotate_left; focus (intro w hSw; go_simp; try with_reducible rfl))
    simp only [Act.put, List.setIfInBounds_toArray, List.set_cons_zero, List.set_cons_succ]
    first | (refine reg_skip 6 (by rfl) (by kernel_rfl) (by kernel_rfl) (by kernel_rfl) (by exact fun _ _ _ h => h) (by rfl) ?_) | (refine reg_take 6 (v := ?_) (by rfl) (by kernel_rfl) (by kernel_rfl) (by kernel_rfl) (by exact fun _ _ _ h => h) (by rfl) ?_ ?_; rotate_left; focus (intro w hSw; go_simp; try with_reducible rfl))
    simp only [Act.put, List.setIfInBounds_toArray, List.set_cons_zero, List.set_cons_succ]
    first | (refine reg_skip 7 (by rfl) (by kernel_rfl) (by kernel_rfl) (by kernel_rfl) (by exact fun _ _ _ h => h) (by rfl) ?_) | (refine reg_take 7 (v := ?_) (by rfl) (by kernel_rfl) (by kernel_rfl) (by kernel_rfl) (by exact fun _ _ _ h => h) (by rfl) ?_ ?_; rotate_left; focus (intro w hSw; go_simp; try with_reducible rfl))
    simp only [Act.put, List.setIfInBounds_toArray, List.set_cons_zero, List.set_cons_succ]
    first | (refine reg_skip 8 (by rfl) (by kernel_rfl) (by kernel_rfl) (by kernel_rfl) (by exact fun _ _ _ h => h) (by rfl) ?_) | (refine reg_take 8 (v := ?_) (by rfl) (by kernel_rfl) (by kernel_rfl) (by kernel_rfl) (by exact fun _ _ _ h => h) (by rfl) ?_ ?_; rotate_left; focus (intro w hSw; go_simp; try with_reducible rfl))
    simp only [Act.put, List.setIfInBounds_toArray, List.set_cons_zero, List.set_cons_succ]
    first | (refine reg_skip 9 (by rfl) (by kernel_rfl) (by kernel_rfl) (by kernel_rfl) (by exact fun _ _ _ h => h) (by rfl) ?_) | (refine reg_take 9 (v := ?_) (by rfl) (by kernel_rfl) (by kernel_rfl) (by kernel_rfl) (by exact fun _ _ _ h => h) (by rfl) ?_ ?_; rotate_left; focus (intro w hSw; go_simp; try with_reducible rfl))
    simp only [Act.put, List.setIfInBounds_toArray, List.set_cons_zero, List.set_cons_succ]
    (refine reg_take 10 (v := ?_) (by rfl) (by kernel_rfl) (by kernel_rfl) (by kernel_rfl) (by exact fun _ _ _ h => h) (by rfl) ?_ ?_; rotate_left; focus (intro w hSw; go_simp; try with_reducible rfl))
    simp only [Act.put, List.setIfInBounds_toArray, List.set_cons_zero, List.set_cons_succ]
    (refine reg_take 11 (v := ?_) (by rfl) (by kernel_rfl) (by kernel_rfl) (by kernel_rfl) (by exact fun _ _ _ h => h) (by rfl) ?_ ?_; rotate_left; focus (intro w hSw; go_simp; try with_reducible rfl))
    simp only [Act.put, List.setIfInBounds_toArray, List.set_cons_zero, List.set_cons_succ]
    first | (refine reg_skip 12 (by rfl) (by kernel_rfl) (by kernel_rfl) (by kernel_rfl) (by exact fun _ _ _ h => h) (by rfl) ?_) | (refine reg_take 12 (v := ?_) (by rfl) (by kernel_rfl) (by kernel_rfl) (by kernel_rfl) (by exact fun _ _ _ h => h) (by rfl) ?_ ?_; rotate_left; focus (intro w hSw; go_simp; try with_reducible rfl))
    simp only [Act.put, List.setIfInBounds_toArray, List.set_cons_zero, List.set_cons_succ]
    first | (refine reg_skip 13 (by rfl) (by kernel_rfl) (by kernel_rfl) (by kernel_rfl) (by exact fun _ _ _ h => h) (by rfl) ?_) | (refine reg_take 13 (v := ?_) (by rfl) (by kernel_rfl) (by kernel_rfl) (by kernel_rfl) (by exact fun _ _ _ h => h) (by rfl) ?_ ?_; rotate_left; focus (intro w hSw; go_simp; try with_reducible rfl))
    simp only [Act.put, List.setIfInBounds_toArray, List.set_cons_zero, List.set_cons_succ]
    first | (refine reg_skip 15 (by rfl) (by kernel_rfl) (by kernel_rfl) (by kernel_rfl) (by exact fun _ _ _ h => h) (by rfl) ?_) | (refine reg_take 15 (v := ?_) (by rfl) (by kernel_rfl) (by kernel_rfl) (by kernel_rfl) (by exact fun _ _ _ h => h) (by rfl) ?_ ?_; rotate_left; focus (intro w hSw; go_simp; try with_reducible rfl))
    simp only [Act.put, List.setIfInBounds_toArray, List.set_cons_zero, List.set_cons_succ]
    refine reg_call 14 (by kernel_rfl) (by rfl) (fun K hK => ?_)
    go_simp
    go_at_call 13; refine (tableOf_any (goesTb.after HT6.out (by repeat (first | exact Below.refl _ _ | assumption | refine Below.drew ?_ | refine below_drewN ?_ _ | refine Below.alloc ?_ (by first | (simp; done) | omega | (simp; omega)) _ | refine Below.setCell ?_ (by first | (simp; done) | omega | (simp; omega)) _))) HSM.out.1).mono ?_; rintro e7 w7 ⟨c7, q7, rfl, ht7, hb7⟩; have hb7' : Below w6.heap.size w6 w7 := Below.trans (by repeat (first | exact Below.refl _ _ | assumption | refine Below.drew ?_ | refine below_drewN ?_ _ | refine Below.alloc ?_ (by first | (simp; done) | omega | (simp; omega)) _ | refine Below.setCell ?_ (by first | (simp; done) | omega | (simp; omega)) _)) (hb7.mono (by simp))
    refine hK.out _ _ (hb7) ?_
    clear hK K
    try simp only [Act.put, List.setIfInBounds_toArray, List.set_cons_zero, List.set_cons_succ]
    refine reg_call 16 (by kernel_rfl) (by rfl) (fun K hK => ?_)
    go_simp
    go_at_call 12; refine (same10_any ht7 (goesRTb.after HR6.out hb7')).mono ?_; rintro e8 w8 ⟨rfl, hb8⟩; have hb8' : Below w6.heap.size w6 w8 := seqB hb7' hb8; have h0 := Aft.each (kcell hb8' (HX6.out.c 7 (.int .i64 t2.count) rfl)); have h1 := Aft.each (kcell hb8' (HX6.out.c 8 (.slice c2.1 c2.2.1 c2.2.2) rfl)); have h2 := Aft.each (kcell hb8' (HX6.out.c 9 (.bool t2.more) rfl)); have h3 := Aft.each (kcell hb8' (HX6.out.c 10 (.int .i64 t2.state.kind) rfl)); have h4 := Aft.each (kcell hb8' (HX6.out.c 11 (.slice d2.1 d2.2.1 d2.2.2) rfl)); have h5 := Aft.each (kcell hb8' (HX6.out.c 12 (.slice none 0 0) rfl)); have j0 := Aft.each (kcell hb8' (HQ6.out.c 0 (.int .i64 t2.count) rfl)); have j1 := Aft.each (kcell hb8' (HQ6.out.c 1 (.slice c4.1 c4.2.1 c4.2.2) rfl)); have j2 := Aft.each (kcell hb8' (HQ6.out.c 2 (.bool t2.more) rfl)); have j3 := Aft.each (kcell hb8' (HQ6.out.c 3 (.int .i64 t2.state.kind) rfl)); have j4 := Aft.each (kcell hb8' (HQ6.out.c 4 (.string (str t2.state.bytes)) rfl)); have j5 := Aft.each (kcell hb8' (HQ6.out.c 5 (.slice none 0 0) rfl))
    refine hK.out _ _ (hb8) ?_
    clear hK K
    try simp only [Act.put, List.setIfInBounds_toArray, List.set_cons_zero, List.set_cons_succ]
    first | (refine reg_skip 17 (by rfl) (by kernel_rfl) (by kernel_rfl) (by kernel_rfl) (by exact fun _ _ _ h => h) (by rfl) ?_) | (refine reg_take 17 (v := ?_) (by rfl) (by kernel_rfl) (by kernel_rfl) (by kernel_rfl) (by exact fun _ _ _ h => h) (by rfl) ?_ ?_; rotate_left; focus (intro w hSw; go_simp; try with_reducible rfl))
    simp only [Act.put, List.setIfInBounds_toArray, List.set_cons_zero, List.set_cons_succ]
    (refine reg_take 18 (v := ?_) (by rfl) (by kernel_rfl) (by kernel_rfl) (by kernel_rfl) (by exact fun _ _ _ h => h) (by rfl) ?_ ?_; rotate_left; focus (intro w hSw; go_simp; try with_reducible rfl))
    simp only [Act.put, List.setIfInBounds_toArray, List.set_cons_zero, List.set_cons_succ]
    (refine reg_take 19 (v := ?_) (by rfl) (by kernel_rfl) (by kernel_rfl) (by kernel_rfl) (by exact fun _ _ _ h => h) (by rfl) ?_ ?_; rotate_left; focus (intro w hSw; go_simp; try with_reducible rfl))
    simp only [Act.put, List.setIfInBounds_toArray, List.set_cons_zero, List.set_cons_succ]
    first | (refine reg_skip 20 (by rfl) (by kernel_rfl) (by kernel_rfl) (by kernel_rfl) (by exact fun _ _ _ h => h) (by rfl) ?_) | (refine reg_take 20 (v := ?_) (by rfl) (by kernel_rfl) (by kernel_rfl) (by kernel_rfl) (by exact fun _ _ _ h => h) (by rfl) ?_ ?_; rotate_left; focus (intro w hSw; go_simp; try with_reducible rfl))
    simp only [Act.put, List.setIfInBounds_toArray, List.set_cons_zero, List.set_cons_succ]
    first | (refine reg_skip 21 (by rfl) (by kernel_rfl) (by kernel_rfl) (by kernel_rfl) (by exact fun _ _ _ h => h) (by rfl) ?_) | (refine reg_take 21 (v := ?_) (by rfl) (by kernel_rfl) (by kernel_rfl) (by kernel_rfl) (by exact fun _ _ _ h => h) (by rfl) ?_ ?_; rotate_left; focus (intro w hSw; go_simp; try with_reducible rfl))
    simp only [Act.put, List.setIfInBounds_toArray, List.set_cons_zero, List.set_cons_succ]
    first | (refine reg_skip 23 (by rfl) (by kernel_rfl) (by kernel_rfl) (by kernel_rfl) (by exact fun _ _ _ h => h) (by rfl) ?_) | (refine reg_take 23 (v := ?_) (by rfl) (by kernel_rfl) (by kernel_rfl) (by kernel_rfl) (by exact fun _ _ _ h => h) (by rfl) ?_ ?_; rotate_left; focus (intro w hSw; go_simp; try with_reducible rfl))
    simp only [Act.put, List.setIfInBounds_toArray, List.set_cons_zero, List.set_cons_succ]
    refine reg_call 22 (by kernel_rfl) (by rfl) (fun K hK => ?_)
    go_simp
    go_at_call 13; refine (tableOf_any (goesTb.after HU6.out hb8') HSM.out.2).mono ?_; rintro e9 w9 ⟨c9, q9, rfl, ht9, hb9⟩; have hb9' : Below w6.heap.size w6 w9 := seqB hb8' hb9
    refine hK.out _ _ (hb9) ?_
    clear hK K
    try simp only [Act.put, List.setIfInBounds_toArray, List.set_cons_zero, List.set_cons_succ]
    refine reg_call 24 (by kernel_rfl) (by rfl) (fun K hK => ?_)
    go_simp
    go_at_call 12; refine (same10_any ht9 (goesRTb.after HS6.out hb9')).mono ?_; rintro e10 w10 ⟨rfl, hb10⟩
    refine hK.out _ _ (hb10) ?_
    clear hK K
    try simp only [Act.put, List.setIfInBounds_toArray, List.set_cons_zero, List.set_cons_succ]
    first | (refine reg_skip 25 (by rfl) (by kernel_rfl) (by kernel_rfl) (by kernel_rfl) (by exact fun _ _ _ h => h) (by rfl) ?_) | (refine reg_take 25 (v := ?_) (by rfl) (by kernel_rfl) (by kernel_rfl) (by kernel_rfl) (by exact fun _ _ _ h => h) (by rfl) ?_ ?_; rotate_left; focus (intro w hSw; go_simp; try with_reducible rfl))
    simp only [Act.put, List.setIfInBounds_toArray, List.set_cons_zero, List.set_cons_succ]
    (refine reg_take 26 (v := ?_) (by rfl) (by kernel_rfl) (by kernel_rfl) (by kernel_rfl) (by exact fun _ _ _ h => h) (by rfl) ?_ ?_; rotate_left; focus (intro w hSw; go_simp; try with_reducible rfl))
    simp only [Act.put, List.setIfInBounds_toArray, List.set_cons_zero, List.set_cons_succ]
    refine wpAnyH_done (by kernel_rfl) ?_ _
    have HF := Lib.hid (seqB hb9' hb10)
    have HX10 := Lib.hid (goesBx.after HX6.out HF.out)
    have HK10 := Lib.hid (goesArr.after HK6.out HF.out)
    have HL10 := Lib.hid (goesArr.after HL6.out HF.out)
    have HB10 := Lib.hid (HB6.out.trans (HF.out.mono HB6.out.size))
    clear HF hb7 hb8 hb9 hb10 hb7' hb8' hb9' ht7 ht9 m0 e0 e1 e2 e3 e4 e5 f0 f1 f2 f3 f4 f5 h0 h1 h2 h3 h4 h5 j0 j1 j2 j3 j4 j5
    go_wp2_with fail
    go_loopw [10] (fun i wr => ∃ k : Nat, k ≤ an ∧ i = .int .i64 (k : Nat) ∧ Hid (Below w10.heap.size w10 wr)) (fun i _ => an - (intOf i).toNat)
    case atStart => exact ⟨0, by omega, rfl, Lib.hid (Below.refl _ _)⟩
    case round =>
      obtain ⟨k, hk, rfl, HBr⟩ := hrel
      by_cases hlt : k < an
      · obtain ⟨x, hx⟩ : ∃ x, l[k]? = some x := ⟨_, List.getElem?_eq_getElem (by have := HKL.out; omega)⟩
        obtain ⟨b, o, hbo, hSb, hbs, HC⟩ := (goesArr.after HK10.out HBr.out).at (by decide) (by show 0 < an; omega)
        obtain ⟨b', o', hbo', hSb', hbs', HC'⟩ := (goesArr.after HL10.out HBr.out).at (by decide) (by show 0 < an; omega)
        try dsimp only at hbo hbo'
        subst hbo hbo'
        obtain ⟨v, _, ⟨rfl, _⟩, hv2⟩ := HC k x hx
        obtain ⟨v', _, ⟨rfl, _⟩, hv2'⟩ := HC' k x hx
        have a0 := hv2 0 _ rfl
        have b0 := hv2' 0 _ rfl
        simp only [Nat.add_zero, Nat.mul_one] at a0 b0
        have m0 := (goesBx.after HX10.out HBr.out).c 0 (.slice (some ⟨b, o, none⟩) an ac) rfl
        clear HC HC' hv2 hv2' hSb hSb' hx
        go_wp2_with fail
        go_quiet (fail)
        go_wp2_with fail
        refine ⟨⟨k + 1, by omega, by go_num, Lib.hid (by have := HBr.out; exact (by repeat (first | exact Below.refl _ _ | assumption | refine Below.drew ?_ | refine below_drewN ?_ _ | refine Below.alloc ?_ (by simp) _ | refine Below.setCell ?_ (by simp) _)))⟩, by simp [intOf]; omega⟩
      · obtain rfl : an = k := by omega
        go_wp2_with fail
        go_ret
        exact ⟨rfl, HB10.out.trans (HBr.out.mono HB10.out.size)⟩
end Go.Proofs.Sb
