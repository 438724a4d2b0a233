/- Walk over signalboxref10.Same at two tables that read the same. No conditions. -/
import Derived.Test.YtenhgcgdhaegaaaDoorTrd
import Derived.Test.YtenhgcgdhaegaaaDoorOptv
import Derived.Deep.QuietTactic
import Derived.BigQuiet
set_option linter.unusedVariables false
set_option linter.unusedSimpArgs false
namespace Go.Proofs.Sb
open Go.RowKit _root_.Sb
set_option maxHeartbeats 8000000 in
set_option maxRecDepth 100000 in
theorem same10_any {M M' dp : Nat} {S S' : Nat → Prop} {w : World} {t : Tb} {c q c' q' : Pl3} (h1 : RTbR M dp S w c q t) (h2 : RTbR M' dp S' w c' q' t) :
    Calls Tryd.prog 12 #[.agg (rTV t c q).toArray, .agg (rTV t c' q').toArray] w fun e w' => e = .returned (.bool true) ∧ Below w.heap.size w w' := by
  obtain ⟨cA, cn, cc⟩ := c
  obtain ⟨qA, qn, qc⟩ := q
  obtain ⟨cA', cn', cc'⟩ := c'
  obtain ⟨qA', qn', qc'⟩ := q'
  obtain rfl : cn = cn' := by have a1 := h1.cl.len; have a2 := h2.cl.len; (try dsimp only at a1 a2); rw [a1, a2]
  obtain rfl : qn = qn' := by have a1 := h1.rw.len; have a2 := h2.rw.len; (try dsimp only at a1 a2); rw [a1, a2]
  have HCL := Lib.hid h1.cl.len
  have HQL := Lib.hid h1.rw.len
  have hp1 := h1.cl.cap
  have hp2 := h1.cl.capMax
  have hp3 := h1.rw.cap
  have hp4 := h1.rw.capMax
  have hp5 := h2.cl.cap
  have hp6 := h2.cl.capMax
  have hp7 := h2.rw.cap
  have hp8 := h2.rw.capMax
  dsimp only at HCL HQL hp1 hp2 hp3 hp4 hp5 hp6 hp7 hp8
  have HS := Lib.hid h1; clear h1
  have HS' := Lib.hid h2; clear h2
  obtain ⟨V1, hV1⟩ : ∃ V1, V1 = rTV t (cA, cn, cc) (qA, qn, qc) := ⟨_, rfl⟩
  obtain ⟨V2, hV2⟩ : ∃ V2, V2 = rTV t (cA', cn, cc') (qA', qn, qc') := ⟨_, rfl⟩
  rw [← hV1, ← hV2]
  have HV1 := Lib.hid hV1; clear hV1
  have HV2 := Lib.hid hV2; clear hV2
  go_enter Tryd.func12, Tryd.ntmps12
  go_upto_region 1 with fail
  obtain ⟨w2, hw2⟩ : ∃ w2, w2 = (w.alloc (.cells V1.toArray 38)).alloc (.cells V2.toArray 38) := ⟨_, rfl⟩
  rw [← hw2]
  have HB2 : Hid (Below w.heap.size w w2) := Lib.hid (by rw [hw2]; exact ((Below.refl _ _).alloc (Nat.le_refl _) _).alloc (by simp) _)
  have HBR : Hid (Bx (fun b => b = w.heap.size) w2 w.heap.size V1) := Lib.hid (by
    rw [hw2]
    exact goesBx.after (Bx.alloc w V1.toArray 38 (S := fun b => b = w.heap.size) rfl rfl) ((Below.refl _ _).alloc (Nat.le_refl _) _))
  have HBZ : Hid (Bx (fun b => b = w.heap.size + 1) w2 (w.heap.size + 1) V2) := Lib.hid (by
    rw [hw2]
    exact Bx.alloc (w.alloc _) V2.toArray 38 (S := fun b => b = w.heap.size + 1) (by simp) (by simp))
  clear hw2
  have hlt2 : w.heap.size + 1 < w2.heap.size := HBZ.out.lt
  have k0 := HBR.out.c 0 _ (show V1[0]? = some (.int .i64 t.count) by rw [HV1.out]; rfl)
  have j0 := HBZ.out.c 0 _ (show V2[0]? = some (.int .i64 t.count) by rw [HV2.out]; rfl)
  have k1 := HBR.out.c 1 _ (show V1[1]? = some (.slice cA cn cc) by rw [HV1.out]; rfl)
  have j1 := HBZ.out.c 1 _ (show V2[1]? = some (.slice cA' cn cc') by rw [HV2.out]; rfl)
  have k2 := HBR.out.c 2 _ (show V1[2]? = some (.bool t.more) by rw [HV1.out]; rfl)
  have j2 := HBZ.out.c 2 _ (show V2[2]? = some (.bool t.more) by rw [HV2.out]; rfl)
  have k3 := HBR.out.c 3 _ (show V1[3]? = some (.int .i64 t.state.kind) by rw [HV1.out]; rfl)
  have j3 := HBZ.out.c 3 _ (show V2[3]? = some (.int .i64 t.state.kind) by rw [HV2.out]; rfl)
  have k4 := HBR.out.c 4 _ (show V1[4]? = some (.string (str t.state.bytes)) by rw [HV1.out]; rfl)
  have j4 := HBZ.out.c 4 _ (show V2[4]? = some (.string (str t.state.bytes)) by rw [HV2.out]; rfl)
  have k5 := HBR.out.c 5 _ (show V1[5]? = some (.slice qA qn qc) by rw [HV1.out]; rfl)
  have j5 := HBZ.out.c 5 _ (show V2[5]? = some (.slice qA' qn qc') by rw [HV2.out]; rfl)
  go_upto_region 3 with fail
  clear k0 k1 k2 k3 k4 k5 j0 j1 j2 j3 j4 j5
  go_upto_block 0 with fail
  go_cut [5] (fun _ wx => Hid (Below w2.heap.size w2 wx))
  case first =>
    go_wp2_with fail
    go_loopw [5] (fun i wr => ∃ k : Nat, k ≤ cn ∧ i = .int .i64 (k : Nat) ∧ Hid (Below w2.heap.size w2 wr)) (fun i _ => cn - (intOf i).toNat)
    case atStart => exact ⟨0, by omega, rfl, Lib.hid (Below.refl _ _)⟩
    case round =>
      obtain ⟨k, hk, rfl, HBr⟩ := hrel
      have hsz := HBr.out.size
      have k1 := (goesBx.after HBR.out HBr.out).c 1 _ (show V1[1]? = some (.slice cA cn cc) by rw [HV1.out]; rfl)
      have j1 := (goesBx.after HBZ.out HBr.out).c 1 _ (show V2[1]? = some (.slice cA' cn cc') by rw [HV2.out]; rfl)
      have HBW := Lib.hid (HB2.out.trans (HBr.out.mono HB2.out.size))
      by_cases hlt : k < cn
      · obtain ⟨x, hx⟩ : ∃ x, t.cols[k]? = some x := ⟨_, List.getElem?_eq_getElem (by have := HCL.out; omega)⟩
        obtain ⟨b, o, hbo, hSb, hbs, HC⟩ := (goesRTb.after HS.out HBW.out).cl.at (by decide) (by show 0 < cn; omega)
        obtain ⟨b', o', hbo', hSb', hbs', HC'⟩ := (goesRTb.after HS'.out HBW.out).cl.at (by decide) (by show 0 < cn; omega)
        dsimp only at hbo hbo'
        subst hbo hbo'
        obtain ⟨v, _, hp, hv2⟩ := HC k x hx
        obtain ⟨A1, n1, c1, A2, n2, c2, rfl, hl1, hl2, hl3, hop⟩ := hp
        obtain ⟨v', _, hp', hv2'⟩ := HC' k x hx
        obtain ⟨A1', n1', c1', A2', n2', c2', rfl, hl1', hl2', hl3', hop'⟩ := hp'
        have HOP := Lib.hid hop
        have HOP' := Lib.hid hop'
        have a0 := hv2 0 _ rfl
        have a1 := hv2 1 _ rfl
        have a2 := hv2 2 _ rfl
        have a3 := hv2 3 _ rfl
        have a4 := hv2 4 _ rfl
        have a5 := hv2 5 _ rfl
        have a6 := hv2 6 _ rfl
        have a7 := hv2 7 _ rfl
        have b0 := hv2' 0 _ rfl
        have b1 := hv2' 1 _ rfl
        have b2 := hv2' 2 _ rfl
        have b3 := hv2' 3 _ rfl
        have b4 := hv2' 4 _ rfl
        have b5 := hv2' 5 _ rfl
        have b6 := hv2' 6 _ rfl
        have b7 := hv2' 7 _ rfl
        simp only [Nat.add_zero] at a0 b0
        clear HC HC' hv2 hv2' hop hop' hl1 hl2 hl3 hl1' hl2' hl3' hSb hSb' hx
        go_upto_region 6 with fail
        have hdr : Below wr.heap.size wr wr.drew := (Below.refl _ _).drew
        have e1 := Aft.each (kcell hdr k1)
        have f1 := Aft.each (kcell hdr j1)
        have e3 := Aft.each (kcell hdr a3)
        have e4 := Aft.each (kcell hdr a4)
        have e5 := Aft.each (kcell hdr a5)
        have e6 := Aft.each (kcell hdr a6)
        have e7 := Aft.each (kcell hdr a7)
        have f3 := Aft.each (kcell hdr b3)
        have f4 := Aft.each (kcell hdr b4)
        have f5 := Aft.each (kcell hdr b5)
        have f6 := Aft.each (kcell hdr b6)
        have f7 := Aft.each (kcell hdr b7)
        have hkc : (k : Int) < (cn : Int) := by omega
        clear hdr
        refine reg_start (by kernel_rfl) ?_
        (refine reg_take 0 (v := ?_) (by rfl) (by kernel_rfl) (by kernel_rfl) (by kernel_rfl) (by exact fun _ _ _ h => h) (by rfl) ?_ ?_; rotate_left; focus (intro w hSw; go_simp; try with_reducible rfl))
        simp only [Act.put, List.setIfInBounds_toArray, List.set_cons_zero, List.set_cons_succ]
        (refine reg_take 1 (v := ?_) (by rfl) (by kernel_rfl) (by kernel_rfl) (by kernel_rfl) (by exact fun _ _ _ h => h) (by rfl) ?_ ?_; rotate_left; focus (intro w hSw; go_simp; try with_reducible rfl))
        simp only [Act.put, List.setIfInBounds_toArray, List.set_cons_zero, List.set_cons_succ]
        (refine reg_take 2 (v := ?_) (by rfl) (by kernel_rfl) (by kernel_rfl) (by kernel_rfl) (by exact fun _ _ _ h => h) (by rfl) ?_ ?_; rotate_left; focus (intro w hSw; go_simp; try with_reducible rfl))
        simp only [Act.put, List.setIfInBounds_toArray, List.set_cons_zero, List.set_cons_succ]
        (refine reg_take 3 (v := ?_) (by rfl) (by kernel_rfl) (by kernel_rfl) (by kernel_rfl) (by exact fun _ _ _ h => h) (by rfl) ?_ ?_; rotate_left; focus (intro w hSw; go_simp; try with_reducible rfl))
        simp only [Act.put, List.setIfInBounds_toArray, List.set_cons_zero, List.set_cons_succ]
        (refine reg_take 4 (v := ?_) (by rfl) (by kernel_rfl) (by kernel_rfl) (by kernel_rfl) (by exact fun _ _ _ h => h) (by rfl) ?_ ?_; rotate_left; focus (intro w hSw; go_simp; try with_reducible rfl))
        simp only [Act.put, List.setIfInBounds_toArray, List.set_cons_zero, List.set_cons_succ]
        (refine reg_take 5 (v := ?_) (by rfl) (by kernel_rfl) (by kernel_rfl) (by kernel_rfl) (by exact fun _ _ _ h => h) (by rfl) ?_ ?_; rotate_left; focus (intro w hSw; go_simp; try with_reducible rfl))
        simp only [Act.put, List.setIfInBounds_toArray, List.set_cons_zero, List.set_cons_succ]
        (refine reg_take 6 (v := ?_) (by rfl) (by kernel_rfl) (by kernel_rfl) (by kernel_rfl) (by exact fun _ _ _ h => h) (by rfl) ?_ ?_; rotate_left; focus (intro w hSw; go_simp; try with_reducible rfl))
        simp only [Act.put, List.setIfInBounds_toArray, List.set_cons_zero, List.set_cons_succ]
        (refine reg_take 7 (v := ?_) (by rfl) (by kernel_rfl) (by kernel_rfl) (by kernel_rfl) (by exact fun _ _ _ h => h) (by rfl) ?_ ?_; rotate_left; focus (intro w hSw; go_simp; try with_reducible rfl))
        simp only [Act.put, List.setIfInBounds_toArray, List.set_cons_zero, List.set_cons_succ]
        (refine reg_take 8 (v := ?_) (by rfl) (by kernel_rfl) (by kernel_rfl) (by kernel_rfl) (by exact fun _ _ _ h => h) (by rfl) ?_ ?_; rotate_left; focus (intro w hSw; go_simp; try with_reducible rfl))
        simp only [Act.put, List.setIfInBounds_toArray, List.set_cons_zero, List.set_cons_succ]
        (refine reg_take 9 (v := ?_) (by rfl) (by kernel_rfl) (by kernel_rfl) (by kernel_rfl) (by exact fun _ _ _ h => h) (by rfl) ?_ ?_; rotate_left; focus (intro w hSw; go_simp; try with_reducible rfl))
        simp only [Act.put, List.setIfInBounds_toArray, List.set_cons_zero, List.set_cons_succ]
        (refine reg_take 10 (v := ?_) (by rfl) (by kernel_rfl) (by kernel_rfl) (by kernel_rfl) (by exact fun _ _ _ h => h) (by rfl) ?_ ?_; rotate_left; focus (intro w hSw; go_simp; try with_reducible rfl))
        simp only [Act.put, List.setIfInBounds_toArray, List.set_cons_zero, List.set_cons_succ]
        (refine reg_take 11 (v := ?_) (by rfl) (by kernel_rfl) (by kernel_rfl) (by kernel_rfl) (by exact fun _ _ _ h => h) (by rfl) ?_ ?_; rotate_left; focus (intro w hSw; go_simp; try with_reducible rfl))
        simp only [Act.put, List.setIfInBounds_toArray, List.set_cons_zero, List.set_cons_succ]
        refine reg_call 12 (by kernel_rfl) (by rfl) (fun K hK => ?_)
        go_simp
        go_at_call 20; refine (same4_any dp (HOP.out.after (by repeat (first | exact Below.refl _ _ | assumption | refine Below.drew ?_ | refine below_drewN ?_ _ | refine Below.alloc ?_ (by first | (simp; done) | omega | (simp; omega)) _ | refine Below.setCell ?_ (by first | (simp; done) | omega | (simp; omega)) _))) (HOP'.out.after (by repeat (first | exact Below.refl _ _ | assumption | refine Below.drew ?_ | refine below_drewN ?_ _ | refine Below.alloc ?_ (by first | (simp; done) | omega | (simp; omega)) _ | refine Below.setCell ?_ (by first | (simp; done) | omega | (simp; omega)) _)))).mono ?_; rintro e5 w6 ⟨rfl, hb6⟩
        refine hK.out _ _ (hb6) ?_
        clear hK K
        try simp only [Act.put, List.setIfInBounds_toArray, List.set_cons_zero, List.set_cons_succ]
        (refine reg_take 13 (v := ?_) (by rfl) (by kernel_rfl) (by kernel_rfl) (by kernel_rfl) (by exact fun _ _ _ h => h) (by rfl) ?_ ?_; rotate_left; focus (intro w hSw; go_simp; try with_reducible rfl))
        simp only [Act.put, List.setIfInBounds_toArray, List.set_cons_zero, List.set_cons_succ]
        refine wpAnyH_done (by kernel_rfl) ?_ _
        have hb6' : Below wr.heap.size wr w6 := Below.trans (by repeat (first | exact Below.refl _ _ | assumption | refine Below.drew ?_ | refine below_drewN ?_ _ | refine Below.alloc ?_ (by first | (simp; done) | omega | (simp; omega)) _ | refine Below.setCell ?_ (by first | (simp; done) | omega | (simp; omega)) _)) (hb6.mono (by simp))
        clear e1 f1 e3 e4 e5 e6 e7 f3 f4 f5 f6 f7 hb6
        replace k1 := kcell hb6' k1
        replace j1 := kcell hb6' j1
        replace a0 := kcell hb6' a0
        replace a1 := kcell hb6' a1
        replace a2 := kcell hb6' a2
        replace b0 := kcell hb6' b0
        replace b1 := kcell hb6' b1
        replace b2 := kcell hb6' b2
        clear a3 a4 a5 a6 a7 b3 b4 b5 b6 b7 HOP HOP'
        have HB7 := Lib.hid (HBr.out.trans (hb6'.mono hsz))
        clear hb6'
        go_wp2_with fail
        go_quiet (fail)
        go_wp2_with fail
        refine ⟨⟨k + 1, by omega, by go_num, Lib.hid (by have := HB7.out; exact (by repeat (first | exact Below.refl _ _ | assumption | refine Below.drew ?_ | refine below_drewN ?_ _ | refine Below.alloc ?_ (by simp) _ | refine Below.setCell ?_ (by simp) _)))⟩, by simp [intOf]; omega⟩
      · obtain rfl : cn = k := by omega
        go_wp2_with fail
        go_meet
        exact HBr
  case rest =>
    obtain ⟨w4, hwo⟩ : ∃ wo, wo = wc := ⟨_, rfl⟩
    subst hwo
    have HB4 := Lib.hid (HB2.out.trans (hcut.out.mono HB2.out.size))
    have HBR4 := Lib.hid (goesBx.after HBR.out hcut.out)
    have HBZ4 := Lib.hid (goesBx.after HBZ.out hcut.out)
    have hz4 := hcut.out.size
    clear hcut HBR HBZ
    go_wp2_with fail
    go_loopw [7, 8] (fun i _ wr => ∃ k : Nat, k ≤ qn ∧ i = .int .i64 (k : Nat) ∧ Hid (Below w4.heap.size w4 wr)) (fun i _ _ => qn - (intOf i).toNat)
    case atStart => exact ⟨0, by omega, rfl, Lib.hid (Below.refl _ _)⟩
    case round =>
      obtain ⟨k, hk, rfl, HBr⟩ := hrel
      have hsz := HBr.out.size
      have HBR5 := Lib.hid (goesBx.after HBR4.out HBr.out)
      have HBZ5 := Lib.hid (goesBx.after HBZ4.out HBr.out)
      have k5 := HBR5.out.c 5 _ (show V1[5]? = some (.slice qA qn qc) by rw [HV1.out]; rfl)
      have j5 := HBZ5.out.c 5 _ (show V2[5]? = some (.slice qA' qn qc') by rw [HV2.out]; rfl)
      have HB5 := Lib.hid (HB4.out.trans (HBr.out.mono HB4.out.size))
      by_cases hlt : k < qn
      · obtain ⟨x, hx⟩ : ∃ x, t.rows[k]? = some x := ⟨_, List.getElem?_eq_getElem (by have := HQL.out; omega)⟩
        obtain ⟨b, o, hbo, hSb, hbs, HC⟩ := (goesRTb.after HS.out HB5.out).rw.at (by decide) (by show 0 < qn; omega)
        obtain ⟨b', o', hbo', hSb', hbs', HC'⟩ := (goesRTb.after HS'.out HB5.out).rw.at (by decide) (by show 0 < qn; omega)
        dsimp only at hbo hbo'
        subst hbo hbo'
        obtain ⟨v, _, hp, hv2⟩ := HC k x hx
        obtain ⟨RA, rn, rc, rfl, hra⟩ := hp
        obtain ⟨v', _, hp', hv2'⟩ := HC' k x hx
        obtain ⟨RA', rn', rc', rfl, hra'⟩ := hp'
        have r0 := hv2 0 _ rfl
        have s0 := hv2' 0 _ rfl
        simp only [Nat.mul_one, Nat.add_zero] at r0 s0
        obtain rfl : rn = rn' := by rw [hra.len, hra'.len]
        have HRL := Lib.hid hra.len
        have hq1 := hra.cap
        have hq2 := hra.capMax
        have hq3 := hra'.cap
        have hq4 := hra'.capMax
        have HRA := Lib.hid hra
        have HRA' := Lib.hid hra'
        have HR0 := Lib.hid r0
        have HS0 := Lib.hid s0
        clear HC HC' hv2 hv2' hra hra' hSb hSb' hx
        obtain ⟨wo, hwo⟩ : ∃ wo, wo = wr := ⟨_, rfl⟩
        subst hwo
        go_wp2_with fail
        go_quiet (fail)
        go_wp2_with fail
        clear k5 j5 r0 s0
        go_loopw [8] (fun i wr => ∃ k2 : Nat, k2 ≤ rn ∧ i = .int .i64 (k2 : Nat) ∧ Hid (Below wo.heap.size wo wr)) (fun i _ => rn - (intOf i).toNat)
        case atStart => exact ⟨0, by omega, rfl, Lib.hid (by exact (by repeat (first | exact Below.refl _ _ | assumption | refine Below.drew ?_ | refine below_drewN ?_ _ | refine Below.alloc ?_ (by simp) _ | refine Below.setCell ?_ (by simp) _)))⟩
        case round =>
          obtain ⟨k2, hk2, rfl, HBq⟩ := hrel
          have hsq := HBq.out.size
          have k5 := (goesBx.after HBR5.out HBq.out).c 5 _ (show V1[5]? = some (.slice (some ⟨b, o, none⟩) qn qc) by rw [HV1.out]; rfl)
          have j5 := (goesBx.after HBZ5.out HBq.out).c 5 _ (show V2[5]? = some (.slice (some ⟨b', o', none⟩) qn qc') by rw [HV2.out]; rfl)
          have r0 := kcell HBq.out HR0.out
          have s0 := kcell HBq.out HS0.out
          by_cases hlt2 : k2 < rn
          · obtain ⟨y, hy⟩ : ∃ y, x[k2]? = some y := ⟨_, List.getElem?_eq_getElem (by have := HRL.out; omega)⟩
            obtain ⟨d, p, hdp, hSd, hds, HD⟩ := (goesArr.after HRA.out HBq.out).at (by decide) (by omega)
            obtain ⟨d', p', hdp', hSd', hds', HD'⟩ := (goesArr.after HRA'.out HBq.out).at (by decide) (by omega)
            subst hdp hdp'
            obtain ⟨v, _, ⟨rfl, _⟩, hv2⟩ := HD k2 y hy
            obtain ⟨v', _, ⟨rfl, _⟩, hv2'⟩ := HD' k2 y hy
            have a0 := hv2 0 _ rfl
            have a1 := hv2 1 _ rfl
            have b0 := hv2' 0 _ rfl
            have b1 := hv2' 1 _ rfl
            simp only [Nat.add_zero] at a0 b0
            clear HD HD' hv2 hv2' hy hSd hSd'
            go_wp2_with fail
            go_quiet (fail)
            go_wp2_with fail
            refine ⟨⟨k2 + 1, by omega, by go_num, Lib.hid (by have := HBq.out; exact (by repeat (first | exact Below.refl _ _ | assumption | refine Below.drew ?_ | refine below_drewN ?_ _ | refine Below.alloc ?_ (by simp) _ | refine Below.setCell ?_ (by simp) _)))⟩, by simp [intOf]; omega⟩
          · obtain rfl : rn = k2 := by omega
            go_wp2_with fail
            exact ⟨⟨k + 1, by omega, by go_num, Lib.hid (HBr.out.trans (HBq.out.mono hsz))⟩, by simp [intOf]; omega⟩
      · obtain rfl : qn = k := by omega
        go_wp2_with fail
        go_ret
        exact ⟨rfl, HB5.out⟩
end Go.Proofs.Sb
