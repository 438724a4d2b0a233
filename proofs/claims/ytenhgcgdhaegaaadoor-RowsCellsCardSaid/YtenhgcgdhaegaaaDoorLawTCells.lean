/- The walk over signalboxlaw10.RowsCells: true at every input, and nothing that was there has turned. Conditions: the table of names reads as it was laid. (written by gen_tlc.py) -/
import Derived.Test.YtenhgcgdhaegaaaDoorAwake10
import Derived.Test.YtenhgcgdhaegaaaDoorTat
import Derived.Test.YtenhgcgdhaegaaaDoorOptv
import Derived.Test.YtenhgcgdhaegaaaDoorRole
set_option linter.unusedVariables false
set_option linter.unusedSimpArgs false
namespace Sb
def atI (o : Option Nat) (j : Nat) : Int := match o with
  | none => -1
  | some k => ((j + k : Nat) : Int)
theorem atI_step {nm : B} {l : List Col} {j : Nat} {x : Col} (h : l[j]? = some x) : atI (firstC nm (l.drop j)) j = if x.name == nm then (j : Int) else atI (firstC nm (l.drop (j + 1))) (j + 1) := by
  obtain ⟨hj, rfl⟩ := List.getElem?_eq_some_iff.1 h
  rw [List.drop_eq_getElem_cons hj, firstC]
  split
  · simp [atI]
  · cases firstC nm (l.drop (j + 1)) with
    | none => rfl
    | some k => simp [atI]; omega
end Sb
namespace Go.Proofs.Sb
open Go.RowKit _root_.Sb
set_option maxHeartbeats 8000000 in
set_option maxRecDepth 100000 in
theorem rowsCells_any {M dp : Nat} {w : World} {c d q : Pl3} {t : Tb} {row : Int} {nm : B} (ht : TbR M dp (fun _ => True) w c d q t) (hpl : Pl w) :
    Calls Tryd.prog 6 #[.agg (tabV t c d q).toArray, .int .i64 row, .string (str nm)] w fun e w' => e = .returned (.bool true) ∧ Below w.heap.size w w' := by
  have HT := Lib.hid ht
  have HPL := Lib.hid hpl; clear hpl
  have HCL := Lib.hid ht.cl.len
  have HRL := Lib.hid ht.rw.len
  have hccap := ht.cl.cap
  have hrcap := ht.rw.cap
  have hccm := ht.cl.capMax
  have hrcm := ht.rw.capMax
  clear ht
  obtain ⟨sv, hsv⟩ : ∃ sv, slightT (dp + 1) t = sv := ⟨_, rfl⟩
  have HSV := Lib.hid hsv; clear hsv
  obtain ⟨o, ho⟩ : ∃ o, o = cellT t row nm := ⟨_, rfl⟩
  have HO := Lib.hid ho
  have HT1 := Lib.hid (Bx.alloc w (tabV t c d q).toArray 29 (S := fun b => b = w.heap.size) rfl rfl)
  go_enter Tryd.func6, Tryd.ntmps6
  go_wp2_with fail
  refine (awake10 (HPL.out.after (by repeat (first | exact Below.refl _ _ | assumption | refine Below.drew ?_ | refine below_drewN ?_ _ | refine Below.alloc ?_ (by first | (simp; done) | omega | (simp; omega)) _ | refine Below.setCell ?_ (by first | (simp; done) | omega | (simp; omega)) _)))).mono ?_
  rintro e w1 ⟨rfl, hb1⟩
  have HX1 := Lib.hid (goesBx.after HT1.out hb1)
  have hb01 : Below w.heap.size w w1 := Below.trans (by repeat (first | exact Below.refl _ _ | assumption | refine Below.drew ?_ | refine below_drewN ?_ _ | refine Below.alloc ?_ (by first | (simp; done) | omega | (simp; omega)) _ | refine Below.setCell ?_ (by first | (simp; done) | omega | (simp; omega)) _)) (hb1.mono (by simp))
  have HB1 := Lib.hid hb01
  clear hb1 hb01 HT1
  go_wp2_with (first | (refine wpList_loadB HX1.out (by rfl) 29 _ (by rfl) (by rfl) _ Tryd.underlying29 rfl (by kernel_rfl) ?_))
  refine (slight10_any (goesTb.after HT.out HB1.out)).mono ?_
  rintro e w2 ⟨rfl, hb2⟩
  rw [HSV.out]
  have HX2 := Lib.hid (goesBx.after HX1.out hb2)
  have HB2 := Lib.hid (HB1.out.trans (hb2.mono HB1.out.size))
  clear hb2 HX1 HB1
  cases sv with
  | false =>
    go_wp2_with fail
    go_ret
    exact ⟨rfl, HB2.out⟩
  | true =>
    go_wp2_with (first | (refine wpList_loadB HX2.out (by rfl) 29 _ (by rfl) (by rfl) _ Tryd.underlying29 rfl (by kernel_rfl) ?_))
    have H3 := tCell_any (row := row) (nm := nm) (goesTb.after HT.out HB2.out)
    rw [← ho] at H3
    refine H3.mono ?_
    clear H3 ho
    rintro e w3 ⟨A3, n3, c3, rfl, hs3, hb3⟩
    have HX3 := Lib.hid (goesBx.after HX2.out hb3)
    have HB3 := Lib.hid (HB2.out.trans (hb3.mono HB2.out.size))
    have HS3 := Lib.hid hs3
    clear hb3 hs3 HX2 HB2
    go_upto_region 8 with (first | (refine wpList_store_newB (by rfl) 26 _ _ (by rfl) _ _ _ _ (by rfl) (by rfl) (by simp) (by rfl) (by kernel_rfl) (by rfl) (by rfl) ?_; intro w4 hb4 hz4 hx4))
    have HV4 := Lib.hid hx4
    have HX4 := Lib.hid (goesBx.after HX3.out hb4)
    have HB4 := Lib.hid (HB3.out.trans (hb4.mono HB3.out.size))
    have HS4 := Lib.hid (goesSl.after HS3.out hb4)
    clear hb4 hx4 hz4 HX3 HB3 HS3
    have x1 := HX4.out.c 1 _ rfl
    have x5 := HX4.out.c 5 _ rfl
    have HTW := Lib.hid (goesTb.after HT.out HB4.out)
    go_wp2_with fail
    go_loopw [11, 12] (fun a i wr => ∃ j : Nat, j ≤ c.2.1 ∧ i = .int .i64 ((j : Int) - 1) ∧ a = .int .i64 (atI (firstC nm (t.cols.drop j)) j) ∧ wr = w4) (fun _ i _ => (intOf i + 1).toNat)
    case atStart =>
      refine ⟨c.2.1, Nat.le_refl _, by go_num, ?_, rfl⟩
      rw [HCL.out, List.drop_length]
      rfl
    case round =>
      obtain ⟨j, hj, rfl, rfl, rfl⟩ := hrel
      obtain ⟨w4, hwo⟩ : ∃ wo, wo = wr := ⟨_, rfl⟩
      subst hwo
      cases j with
      | succ j =>
        obtain ⟨x, hx⟩ : ∃ x, t.cols[j]? = some x := ⟨_, List.getElem?_eq_getElem (by have := HCL.out; omega)⟩
        obtain ⟨b, off, hbo, hSb, hbs, HC⟩ := HTW.out.cl.at (by decide) (by omega)
        obtain ⟨v, hv1, hp, hv2⟩ := HC j x hx
        obtain ⟨A1, n1, j1, A2, n2, j2, rfl, _⟩ := hp
        have hc2 := hv2 2 _ rfl
        clear hv1 hv2 HC hSb
        have HAT := Lib.hid (atI_step (nm := nm) hx); clear hx
        have hjn : ((j + 1 : Nat) : Int) - 1 = (j : Int) := by omega
        obtain ⟨a, ha⟩ : ∃ a, a = atI (firstC nm (t.cols.drop (j + 1))) (j + 1) := ⟨_, rfl⟩
        rw [← ha] at HAT ⊢
        clear ha
        rw [hjn]
        obtain ⟨eqv, heqv⟩ : ∃ e, (x.name == nm) = e := ⟨_, rfl⟩
        rw [heqv] at HAT
        clear hjn
        cases eqv with
        | true =>
          go_wp2_with fail
          exact ⟨⟨j, by omega, by go_num, by rw [HAT.out]; rfl, by first | rfl | trivial⟩, by first | (simp [intOf]; done) | (simp [intOf]; omega)⟩
        | false =>
          go_wp2_with fail
          exact ⟨⟨j, by omega, by go_num, by rw [HAT.out]; rfl, by first | rfl | trivial⟩, by first | (simp [intOf]; done) | (simp [intOf]; omega)⟩
      | zero =>
        rw [List.drop_zero]
        cases hf : firstC nm t.cols with
        | none =>
          have ho : o = none := by rw [HO.out]; unfold cellT; rw [hf]
          clear HO hf
          subst ho
          simp only [Option.getD_none, Option.isSome_none] at HV4 HS4 ⊢
          obtain rfl : n3 = 0 := HS4.out.len
          have v0 : w4.cell? _ = some (.int .i64 0) := HV4.out.c 0 _ rfl
          have v1 := HV4.out.c 1 _ rfl
          go_wp2_with fail
          go_ret
          exact ⟨rfl, HB4.out⟩
        | some k =>
          have HF := Lib.hid hf; clear hf
          have hk0 : atI (some k) 0 = (k : Int) := by simp [atI]
          rw [hk0]
          clear hk0
          by_cases hr0 : row < 0
          · have ho : o = none := by rw [HO.out]; unfold cellT; rw [HF.out]; simp only [if_pos hr0]
            have hd0 : decide (row < 0) = true := decide_eq_true hr0
            clear HO HF
            subst ho
            simp only [Option.getD_none, Option.isSome_none] at HV4 HS4 ⊢
            obtain rfl : n3 = 0 := HS4.out.len
            have v0 : w4.cell? _ = some (.int .i64 0) := HV4.out.c 0 _ rfl
            have v1 := HV4.out.c 1 _ rfl
            go_wp2_with fail
            go_ret
            exact ⟨rfl, HB4.out⟩
          · have hd0 : decide (row < 0) = false := decide_eq_false hr0
            obtain ⟨r, hr⟩ : ∃ r : Nat, row = (r : Int) := ⟨row.toNat, by omega⟩
            subst hr
            by_cases hrl : r < q.2.1
            · obtain ⟨l, hl⟩ : ∃ l, t.rows[r]? = some l := ⟨_, List.getElem?_eq_getElem (by have := HRL.out; omega)⟩
              obtain ⟨b, off, hbo, hSb, hbs, HC⟩ := HTW.out.rw.at (by decide) (by omega)
              obtain ⟨v, hv1, hp, hv2⟩ := HC r l hl
              obtain ⟨LA, LN, LK, rfl, hlr⟩ := hp
              have hc0 := hv2 0 _ rfl
              simp only [Nat.add_zero, Nat.mul_one] at hc0
              have HLR := Lib.hid hlr
              have HLL := Lib.hid hlr.len
              have hlc := hlr.cap
              have hlm := hlr.capMax
              clear hv1 hv2 HC hlr
              by_cases hkl : k < LN
              · obtain ⟨y, hy⟩ : ∃ y, l[k]? = some y := ⟨_, List.getElem?_eq_getElem (by have := HLL.out; omega)⟩
                have ho : o = some y := by rw [HO.out]; unfold cellT; rw [HF.out]; simp only [if_neg hr0, Int.toNat_natCast, hl, hy]
                obtain ⟨b2, off2, rfl, hSb2, hbs2, HC2⟩ := HLR.out.at (by decide) (by omega)
                obtain ⟨v2, gv1, gp, gv2⟩ := HC2 k y hy
                obtain ⟨YA, YN, YK, rfl, hyr⟩ := gp
                have hy0 := gv2 0 _ rfl
                have hy1 := gv2 1 _ rfl
                simp only [Nat.add_zero] at hy0
                have HY := Lib.hid hyr
                have hkc : k < c.2.1 := by
                  have := firstC_lt HF.out
                  have := HCL.out
                  omega
                obtain ⟨x, hx⟩ : ∃ x, t.cols[k]? = some x := ⟨_, List.getElem?_eq_getElem (by have := HCL.out; omega)⟩
                clear HC2 gv1 gv2 hyr HO HF hy hl hSb2 hSb
                subst ho
                simp only [Option.getD_some, Option.isSome_some] at HV4 HS4 ⊢
                go_upto_region 17 with (first | (refine wpList_store_newB (by rfl) 26 _ _ (by rfl) _ _ _ _ (by rfl) (by rfl) (by simp) (by rfl) (by kernel_rfl) (by rfl) (by rfl) ?_; intro w5 hb5 hz5 hx5))
                have hdr : Below w4.heap.size w4 w5.drew := hb5.drew
                have hdr5 : Below w5.heap.size w5 w5.drew := (Below.refl _ _).drew
                have HBW := Lib.hid (HB4.out.trans (hdr.mono HB4.out.size))
                have HTX := Lib.hid (goesTb.after HTW.out hdr)
                have e1 := Aft.each (kcell hdr x1)
                have ev0 := Aft.each (kcell hdr (HV4.out.c 0 _ rfl))
                have ev1 := Aft.each (kcell hdr (HV4.out.c 1 _ rfl))
                have ew0 := Aft.each (kcell hdr5 (hx5.c 0 _ rfl))
                have ew1 := Aft.each (kcell hdr5 (hx5.c 1 _ rfl))
                obtain ⟨b3, off3, hbo3, hSb3, hbs3, HC3⟩ := HTX.out.cl.at (by decide) (by omega)
                obtain ⟨v3, fv1, fp, fv2⟩ := HC3 k x hx
                obtain ⟨A1, n1, j1, A2, n2, j2, rfl, _, _, _, hxo⟩ := fp
                have eo3 := Aft.each (fv2 3 _ rfl)
                have eo4 := Aft.each (fv2 4 _ rfl)
                have eo5 := Aft.each (fv2 5 _ rfl)
                have eo6 := Aft.each (fv2 6 _ rfl)
                have eo7 := Aft.each (fv2 7 _ rfl)
                have HXO := Lib.hid hxo
                have HSV := Lib.hid (goesSl.after HS4.out hdr)
                have HSW := Lib.hid (goesSl.after HY.out hdr)
                have hcv : ∀ w', Aft w5.drew w' → (convert 22 9 (.slice A3 n3 c3)).run Tryd.prog w' = .ok (.string (str y.bytes)) w' := fun w' h => conv_sl (HSV.out.after h)
                have hcw : ∀ w', Aft w5.drew w' → (convert 22 9 (.slice YA YN YK)).run Tryd.prog w' = .ok (.string (str y.bytes)) w' := fun w' h => conv_sl (HSW.out.after h)
                clear fv1 fv2 HC3 hxo hdr hdr5 hb5 hx5 hz5
                refine reg_start (by kernel_rfl) ?_
                (refine reg_take 0 (v := ?_) (by rfl) (by kernel_rfl) (by kernel_rfl) (by kernel_rfl) (by exact fun _ _ _ h => h) (by rfl) ?_ ?_; rotate_left; focus (intro w hSw; go_simp; try with_reducible rfl))
                simp only [Act.put, List.setIfInBounds_toArray, List.set_cons_zero, List.set_cons_succ]
                (refine reg_take 1 (v := ?_) (by rfl) (by kernel_rfl) (by kernel_rfl) (by kernel_rfl) (by exact fun _ _ _ h => h) (by rfl) ?_ ?_; rotate_left; focus (intro w hSw; go_simp; try with_reducible rfl))
                simp only [Act.put, List.setIfInBounds_toArray, List.set_cons_zero, List.set_cons_succ]
                first | (refine reg_skip 2 (by rfl) (by kernel_rfl) (by kernel_rfl) (by kernel_rfl) (by exact fun _ _ _ h => h) (by rfl) ?_) | (refine reg_take 2 (v := ?_) (by rfl) (by kernel_rfl) (by kernel_rfl) (by kernel_rfl) (by exact fun _ _ _ h => h) (by rfl) ?_ ?_; rotate_left; focus (intro w hSw; go_simp; try with_reducible rfl))
                simp only [Act.put, List.setIfInBounds_toArray, List.set_cons_zero, List.set_cons_succ]
                first | (refine reg_skip 3 (by rfl) (by kernel_rfl) (by kernel_rfl) (by kernel_rfl) (by exact fun _ _ _ h => h) (by rfl) ?_) | (refine reg_take 3 (v := ?_) (by rfl) (by kernel_rfl) (by kernel_rfl) (by kernel_rfl) (by exact fun _ _ _ h => h) (by rfl) ?_ ?_; rotate_left; focus (intro w hSw; go_simp; try with_reducible rfl))
                simp only [Act.put, List.setIfInBounds_toArray, List.set_cons_zero, List.set_cons_succ]
                first | (refine reg_skip 4 (by rfl) (by kernel_rfl) (by kernel_rfl) (by kernel_rfl) (by exact fun _ _ _ h => h) (by rfl) ?_) | (refine reg_take 4 (v := ?_) (by rfl) (by kernel_rfl) (by kernel_rfl) (by kernel_rfl) (by exact fun _ _ _ h => h) (by rfl) ?_ ?_; rotate_left; focus (intro w hSw; go_simp; try with_reducible rfl))
                simp only [Act.put, List.setIfInBounds_toArray, List.set_cons_zero, List.set_cons_succ]
                first | (refine reg_skip 5 (by rfl) (by kernel_rfl) (by kernel_rfl) (by kernel_rfl) (by exact fun _ _ _ h => h) (by rfl) ?_) | (refine reg_take 5 (v := ?_) (by rfl) (by kernel_rfl) (by kernel_rfl) (by kernel_rfl) (by exact fun _ _ _ h => h) (by rfl) ?_ ?_; rotate_left; focus (intro w hSw; go_simp; try with_reducible rfl))
                simp only [Act.put, List.setIfInBounds_toArray, List.set_cons_zero, List.set_cons_succ]
                first | (refine reg_skip 6 (by rfl) (by kernel_rfl) (by kernel_rfl) (by kernel_rfl) (by exact fun _ _ _ h => h) (by rfl) ?_) | (refine reg_take 6 (v := ?_) (by rfl) (by kernel_rfl) (by kernel_rfl) (by kernel_rfl) (by exact fun _ _ _ h => h) (by rfl) ?_ ?_; rotate_left; focus (intro w hSw; go_simp; try with_reducible rfl))
                simp only [Act.put, List.setIfInBounds_toArray, List.set_cons_zero, List.set_cons_succ]
                (refine reg_take 7 (v := ?_) (by rfl) (by kernel_rfl) (by kernel_rfl) (by kernel_rfl) (by exact fun _ _ _ h => h) (by rfl) ?_ ?_; rotate_left; focus (intro w hSw; go_simp; try with_reducible rfl))
                simp only [Act.put, List.setIfInBounds_toArray, List.set_cons_zero, List.set_cons_succ]
                (refine reg_take 8 (v := ?_) (by rfl) (by kernel_rfl) (by kernel_rfl) (by kernel_rfl) (by exact fun _ _ _ h => h) (by rfl) ?_ ?_; rotate_left; focus (intro w hSw; go_simp; try with_reducible rfl))
                simp only [Act.put, List.setIfInBounds_toArray, List.set_cons_zero, List.set_cons_succ]
                first | (refine reg_skip 9 (by rfl) (by kernel_rfl) (by kernel_rfl) (by kernel_rfl) (by exact fun _ _ _ h => h) (by rfl) ?_) | (refine reg_take 9 (v := ?_) (by rfl) (by kernel_rfl) (by kernel_rfl) (by kernel_rfl) (by exact fun _ _ _ h => h) (by rfl) ?_ ?_; rotate_left; focus (intro w hSw; go_simp; try with_reducible rfl))
                simp only [Act.put, List.setIfInBounds_toArray, List.set_cons_zero, List.set_cons_succ]
                first | (refine reg_skip 10 (by rfl) (by kernel_rfl) (by kernel_rfl) (by kernel_rfl) (by exact fun _ _ _ h => h) (by rfl) ?_) | (refine reg_take 10 (v := ?_) (by rfl) (by kernel_rfl) (by kernel_rfl) (by kernel_rfl) (by exact fun _ _ _ h => h) (by rfl) ?_ ?_; rotate_left; focus (intro w hSw; go_simp; try with_reducible rfl))
                simp only [Act.put, List.setIfInBounds_toArray, List.set_cons_zero, List.set_cons_succ]
                first | (refine reg_skip 11 (by rfl) (by kernel_rfl) (by kernel_rfl) (by kernel_rfl) (by exact fun _ _ _ h => h) (by rfl) ?_) | (refine reg_take 11 (v := ?_) (by rfl) (by kernel_rfl) (by kernel_rfl) (by kernel_rfl) (by exact fun _ _ _ h => h) (by rfl) ?_ ?_; rotate_left; focus (intro w hSw; go_simp; try with_reducible rfl))
                simp only [Act.put, List.setIfInBounds_toArray, List.set_cons_zero, List.set_cons_succ]
                first | (refine reg_skip 12 (by rfl) (by kernel_rfl) (by kernel_rfl) (by kernel_rfl) (by exact fun _ _ _ h => h) (by rfl) ?_) | (refine reg_take 12 (v := ?_) (by rfl) (by kernel_rfl) (by kernel_rfl) (by kernel_rfl) (by exact fun _ _ _ h => h) (by rfl) ?_ ?_; rotate_left; focus (intro w hSw; go_simp; try with_reducible rfl))
                simp only [Act.put, List.setIfInBounds_toArray, List.set_cons_zero, List.set_cons_succ]
                first | (refine reg_skip 13 (by rfl) (by kernel_rfl) (by kernel_rfl) (by kernel_rfl) (by exact fun _ _ _ h => h) (by rfl) ?_) | (refine reg_take 13 (v := ?_) (by rfl) (by kernel_rfl) (by kernel_rfl) (by kernel_rfl) (by exact fun _ _ _ h => h) (by rfl) ?_ ?_; rotate_left; focus (intro w hSw; go_simp; try with_reducible rfl))
                simp only [Act.put, List.setIfInBounds_toArray, List.set_cons_zero, List.set_cons_succ]
                first | (refine reg_skip 14 (by rfl) (by kernel_rfl) (by kernel_rfl) (by kernel_rfl) (by exact fun _ _ _ h => h) (by rfl) ?_) | (refine reg_take 14 (v := ?_) (by rfl) (by kernel_rfl) (by kernel_rfl) (by kernel_rfl) (by exact fun _ _ _ h => h) (by rfl) ?_ ?_; rotate_left; focus (intro w hSw; go_simp; try with_reducible rfl))
                simp only [Act.put, List.setIfInBounds_toArray, List.set_cons_zero, List.set_cons_succ]
                first | (refine reg_skip 15 (by rfl) (by kernel_rfl) (by kernel_rfl) (by kernel_rfl) (by exact fun _ _ _ h => h) (by rfl) ?_) | (refine reg_take 15 (v := ?_) (by rfl) (by kernel_rfl) (by kernel_rfl) (by kernel_rfl) (by exact fun _ _ _ h => h) (by rfl) ?_ ?_; rotate_left; focus (intro w hSw; go_simp; try with_reducible rfl))
                simp only [Act.put, List.setIfInBounds_toArray, List.set_cons_zero, List.set_cons_succ]
                (refine reg_take 16 (v := ?_) (by rfl) (by kernel_rfl) (by kernel_rfl) (by kernel_rfl) (by exact fun _ _ _ h => h) (by rfl) ?_ ?_; rotate_left; focus (intro w hSw; go_simp; try with_reducible rfl))
                simp only [Act.put, List.setIfInBounds_toArray, List.set_cons_zero, List.set_cons_succ]
                (refine reg_take 17 (v := ?_) (by rfl) (by kernel_rfl) (by kernel_rfl) (by kernel_rfl) (by exact fun _ _ _ h => h) (by rfl) ?_ ?_; rotate_left; focus (intro w hSw; go_simp; try with_reducible rfl))
                simp only [Act.put, List.setIfInBounds_toArray, List.set_cons_zero, List.set_cons_succ]
                first | (refine reg_skip 18 (by rfl) (by kernel_rfl) (by kernel_rfl) (by kernel_rfl) (by exact fun _ _ _ h => h) (by rfl) ?_) | (refine reg_take 18 (v := ?_) (by rfl) (by kernel_rfl) (by kernel_rfl) (by kernel_rfl) (by exact fun _ _ _ h => h) (by rfl) ?_ ?_; rotate_left; focus (intro w hSw; go_simp; try with_reducible rfl))
                simp only [Act.put, List.setIfInBounds_toArray, List.set_cons_zero, List.set_cons_succ]
                first | (refine reg_skip 19 (by rfl) (by kernel_rfl) (by kernel_rfl) (by kernel_rfl) (by exact fun _ _ _ h => h) (by rfl) ?_) | (refine reg_take 19 (v := ?_) (by rfl) (by kernel_rfl) (by kernel_rfl) (by kernel_rfl) (by exact fun _ _ _ h => h) (by rfl) ?_ ?_; rotate_left; focus (intro w hSw; go_simp; try with_reducible rfl))
                simp only [Act.put, List.setIfInBounds_toArray, List.set_cons_zero, List.set_cons_succ]
                first | (refine reg_skip 20 (by rfl) (by kernel_rfl) (by kernel_rfl) (by kernel_rfl) (by exact fun _ _ _ h => h) (by rfl) ?_) | (refine reg_take 20 (v := ?_) (by rfl) (by kernel_rfl) (by kernel_rfl) (by kernel_rfl) (by exact fun _ _ _ h => h) (by rfl) ?_ ?_; rotate_left; focus (intro w hSw; go_simp; try with_reducible rfl))
                simp only [Act.put, List.setIfInBounds_toArray, List.set_cons_zero, List.set_cons_succ]
                first | (refine reg_skip 21 (by rfl) (by kernel_rfl) (by kernel_rfl) (by kernel_rfl) (by exact fun _ _ _ h => h) (by rfl) ?_) | (refine reg_take 21 (v := ?_) (by rfl) (by kernel_rfl) (by kernel_rfl) (by kernel_rfl) (by exact fun _ _ _ h => h) (by rfl) ?_ ?_; rotate_left; focus (intro w hSw; go_simp; try with_reducible rfl))
                simp only [Act.put, List.setIfInBounds_toArray, List.set_cons_zero, List.set_cons_succ]
                first | (refine reg_skip 22 (by rfl) (by kernel_rfl) (by kernel_rfl) (by kernel_rfl) (by exact fun _ _ _ h => h) (by rfl) ?_) | (refine reg_take 22 (v := ?_) (by rfl) (by kernel_rfl) (by kernel_rfl) (by kernel_rfl) (by exact fun _ _ _ h => h) (by rfl) ?_ ?_; rotate_left; focus (intro w hSw; go_simp; try with_reducible rfl))
                simp only [Act.put, List.setIfInBounds_toArray, List.set_cons_zero, List.set_cons_succ]
                first | (refine reg_skip 23 (by rfl) (by kernel_rfl) (by kernel_rfl) (by kernel_rfl) (by exact fun _ _ _ h => h) (by rfl) ?_) | (refine reg_take 23 (v := ?_) (by rfl) (by kernel_rfl) (by kernel_rfl) (by kernel_rfl) (by exact fun _ _ _ h => h) (by rfl) ?_ ?_; rotate_left; focus (intro w hSw; go_simp; try with_reducible rfl))
                simp only [Act.put, List.setIfInBounds_toArray, List.set_cons_zero, List.set_cons_succ]
                first | (refine reg_skip 24 (by rfl) (by kernel_rfl) (by kernel_rfl) (by kernel_rfl) (by exact fun _ _ _ h => h) (by rfl) ?_) | (refine reg_take 24 (v := ?_) (by rfl) (by kernel_rfl) (by kernel_rfl) (by kernel_rfl) (by exact fun _ _ _ h => h) (by rfl) ?_ ?_; rotate_left; focus (intro w hSw; go_simp; try with_reducible rfl))
                simp only [Act.put, List.setIfInBounds_toArray, List.set_cons_zero, List.set_cons_succ]
                first | (refine reg_skip 25 (by rfl) (by kernel_rfl) (by kernel_rfl) (by kernel_rfl) (by exact fun _ _ _ h => h) (by rfl) ?_) | (refine reg_take 25 (v := ?_) (by rfl) (by kernel_rfl) (by kernel_rfl) (by kernel_rfl) (by exact fun _ _ _ h => h) (by rfl) ?_ ?_; rotate_left; focus (intro w hSw; go_simp; try with_reducible rfl))
                simp only [Act.put, List.setIfInBounds_toArray, List.set_cons_zero, List.set_cons_succ]
                first | (refine reg_skip 26 (by rfl) (by kernel_rfl) (by kernel_rfl) (by kernel_rfl) (by exact fun _ _ _ h => h) (by rfl) ?_) | (refine reg_take 26 (v := ?_) (by rfl) (by kernel_rfl) (by kernel_rfl) (by kernel_rfl) (by exact fun _ _ _ h => h) (by rfl) ?_ ?_; rotate_left; focus (intro w hSw; go_simp; try with_reducible rfl))
                simp only [Act.put, List.setIfInBounds_toArray, List.set_cons_zero, List.set_cons_succ]
                first | (refine reg_skip 27 (by rfl) (by kernel_rfl) (by kernel_rfl) (by kernel_rfl) (by exact fun _ _ _ h => h) (by rfl) ?_) | (refine reg_take 27 (v := ?_) (by rfl) (by kernel_rfl) (by kernel_rfl) (by kernel_rfl) (by exact fun _ _ _ h => h) (by rfl) ?_ ?_; rotate_left; focus (intro w hSw; go_simp; try with_reducible rfl))
                simp only [Act.put, List.setIfInBounds_toArray, List.set_cons_zero, List.set_cons_succ]
                first | (refine reg_skip 28 (by rfl) (by kernel_rfl) (by kernel_rfl) (by kernel_rfl) (by exact fun _ _ _ h => h) (by rfl) ?_) | (refine reg_take 28 (v := ?_) (by rfl) (by kernel_rfl) (by kernel_rfl) (by kernel_rfl) (by exact fun _ _ _ h => h) (by rfl) ?_ ?_; rotate_left; focus (intro w hSw; go_simp; try with_reducible rfl))
                simp only [Act.put, List.setIfInBounds_toArray, List.set_cons_zero, List.set_cons_succ]
                first | (refine reg_skip 29 (by rfl) (by kernel_rfl) (by kernel_rfl) (by kernel_rfl) (by exact fun _ _ _ h => h) (by rfl) ?_) | (refine reg_take 29 (v := ?_) (by rfl) (by kernel_rfl) (by kernel_rfl) (by kernel_rfl) (by exact fun _ _ _ h => h) (by rfl) ?_ ?_; rotate_left; focus (intro w hSw; go_simp; try with_reducible rfl))
                simp only [Act.put, List.setIfInBounds_toArray, List.set_cons_zero, List.set_cons_succ]
                refine reg_call 30 (by kernel_rfl) (by rfl) (fun K hK => ?_)
                go_simp
                go_at_call 20; refine (same4_any dp HXO.out HXO.out).mono ?_; rintro e w6 ⟨rfl, hb6⟩
                refine hK.out _ _ (hb6) ?_
                clear hK K
                try simp only [Act.put, List.setIfInBounds_toArray, List.set_cons_zero, List.set_cons_succ]
                (refine reg_take 31 (v := ?_) (by rfl) (by kernel_rfl) (by kernel_rfl) (by kernel_rfl) (by exact fun _ _ _ h => h) (by rfl) ?_ ?_; rotate_left; focus (intro w hSw; go_simp; try with_reducible rfl))
                simp only [Act.put, List.setIfInBounds_toArray, List.set_cons_zero, List.set_cons_succ]
                (refine reg_take 32 (v := ?_) (by rfl) (by kernel_rfl) (by kernel_rfl) (by kernel_rfl) (by exact fun _ _ _ h => h) (by rfl) ?_ ?_; rotate_left; focus (intro w hSw; go_simp; try with_reducible rfl))
                simp only [Act.put, List.setIfInBounds_toArray, List.set_cons_zero, List.set_cons_succ]
                refine wpAnyH_done (by kernel_rfl) ?_ _
                go_wp2_with fail
                go_ret
                exact ⟨rfl, HBW.out.trans (hb6.mono HBW.out.size)⟩
              · have ho : o = none := by
                  rw [HO.out]
                  unfold cellT
                  rw [HF.out]
                  simp only [if_neg hr0, Int.toNat_natCast, hl]
                  exact List.getElem?_eq_none (by have := HLL.out; omega)
                clear HO HF hl
                subst ho
                simp only [Option.getD_none, Option.isSome_none] at HV4 HS4 ⊢
                obtain rfl : n3 = 0 := HS4.out.len
                have v0 : w4.cell? _ = some (.int .i64 0) := HV4.out.c 0 _ rfl
                have v1 := HV4.out.c 1 _ rfl
                go_wp2_with fail
                go_ret
                exact ⟨rfl, HB4.out⟩
            · have ho : o = none := by
                rw [HO.out]
                unfold cellT
                rw [HF.out]
                simp only [if_neg hr0, Int.toNat_natCast]
                rw [List.getElem?_eq_none (by have := HRL.out; omega)]
              clear HO HF
              subst ho
              simp only [Option.getD_none, Option.isSome_none] at HV4 HS4 ⊢
              obtain rfl : n3 = 0 := HS4.out.len
              have v0 : w4.cell? _ = some (.int .i64 0) := HV4.out.c 0 _ rfl
              have v1 := HV4.out.c 1 _ rfl
              go_wp2_with fail
              go_ret
              exact ⟨rfl, HB4.out⟩
end Go.Proofs.Sb
