/- The walk over signalboxlaw10.RowsCut: true, and nothing that was there has turned. Conditions: the table of names reads as it was laid; parts of up to 2^20 bytes. -/
import Derived.Test.YtenhgcgdhaegaaaDoorAwake10
import Derived.Test.YtenhgcgdhaegaaaDoorSlight10
import Derived.Test.YtenhgcgdhaegaaaDoorCutm
set_option linter.unusedVariables false
set_option linter.unusedSimpArgs false
namespace Go.Proofs.Sb
open Go.RowKit _root_.Sb
set_option maxHeartbeats 8000000 in
set_option maxRecDepth 100000 in
theorem rowsCut_any {dp : Nat} {w : World} {c d q : Pl3} {t : Tb} {one : Bool} {i : Int} {mb : Nat} (ht : TbR 1048576 dp (fun _ => True) w c d q t) (hB : TbB 1048576 t) (hmb : mb < 256) (hpl : Pl w) :
    Calls Tryd.prog 7 #[.agg (tabV t c d q).toArray, .bool one, .int .i64 i, .int .u8 (mb : Int)] w fun e w' => e = .returned (.bool true) ∧ Below w.heap.size w w' := by
  have HT := Lib.hid ht
  have HTB := Lib.hid hB; clear hB
  have HPL := Lib.hid hpl; clear hpl
  obtain ⟨kk, hkk, hand⟩ := and_ex i
  have HAND := Lib.hid hand; clear hand
  have HLE := Lib.hid ht.lens
  clear ht
  obtain ⟨sv, hsv⟩ : ∃ sv, slightT (dp + 1) t = sv := ⟨_, rfl⟩
  have HSV := Lib.hid hsv; clear hsv
  obtain ⟨r, hr⟩ : ∃ r, putTb (dp + 1) t one = r := ⟨_, rfl⟩
  have HR := Lib.hid hr; clear hr
  have HT1 := Lib.hid (Bx.alloc w (tabV t c d q).toArray 29 (S := fun b => b = w.heap.size) rfl rfl)
  go_enter Tryd.func7, Tryd.ntmps7
  go_wp2_with fail
  refine (awake10 (HPL.out.after (by repeat (first | exact Below.refl _ _ | assumption | refine Below.drew ?_ | refine below_drewN ?_ _ | refine Below.alloc ?_ (by first | (simp; done) | omega | (simp; omega)) _ | refine Below.setCell ?_ (by first | (simp; done) | omega | (simp; omega)) _)))).mono ?_
  rintro e w1 ⟨rfl, hb1⟩
  have HX1 := Lib.hid (goesBx.after HT1.out hb1)
  have hb01 : Below w.heap.size w w1 := Below.trans (by repeat (first | exact Below.refl _ _ | assumption | refine Below.drew ?_ | refine below_drewN ?_ _ | refine Below.alloc ?_ (by first | (simp; done) | omega | (simp; omega)) _ | refine Below.setCell ?_ (by first | (simp; done) | omega | (simp; omega)) _)) (hb1.mono (by simp))
  have HB1 := Lib.hid hb01
  clear hb1 hb01 HT1
  go_wp2_with (first | (refine wpList_loadB HX1.out (by rfl) 29 _ (by rfl) (by rfl) _ Tryd.underlying29 rfl (by kernel_rfl) ?_))
  refine (slight10_any (goesTb.after HT.out HB1.out)).mono ?_
  rintro e w2 ⟨rfl, hb2⟩
  rw [HSV.out]
  have HX2 := Lib.hid (goesBx.after HX1.out hb2)
  have HB2 := Lib.hid (HB1.out.trans (hb2.mono HB1.out.size))
  clear hb2 HX1 HB1
  cases sv with
  | false =>
    go_wp2_with fail
    go_ret
    exact ⟨rfl, HB2.out⟩
  | true =>
    have HWT := Lib.hid (wt_slight HSV.out HLE.out HTB.out)
    go_wp2_with (first | (refine wpList_loadB HX2.out (by rfl) 29 _ (by rfl) (by rfl) _ Tryd.underlying29 rfl (by kernel_rfl) ?_))
    have H3 := tPut_any (one := one) (goesTb.after HT.out HB2.out) (by decide) (HPL.out.after HB2.out) (by have := HWT.out.1; omega) (fun x hx => by have := HWT.out.2 x hx; omega)
    rw [HR.out] at H3
    refine H3.mono ?_
    clear H3
    rintro e w3 ⟨A3, n3, c3, rfl, ho3, hb3⟩
    have HB3 := Lib.hid (HB2.out.trans (hb3.mono HB2.out.size))
    have hl3 := ho3.len
    have HO3 := Lib.hid (ho3.mono HB2.out.size)
    have hcap := ho3.sl.cap
    have hcm := ho3.sl.capMax
    clear ho3 hb3 HX2 HB2
    cases r with
    | error er =>
      have hne := putTb_ne HR.out
      simp only [wval_error, List.length_nil] at hl3
      subst hl3
      go_wp2_with fail
      go_ret
      exact ⟨rfl, HB3.out⟩
    | ok b =>
      have hpos := putT_pos HR.out
      have hle := putT_le HR.out
      have hwt := HWT.out.1
      have HG := Lib.hid (tb_back (ok31_of HTB.out) HR.out)
      simp only [wval_ok] at hl3
      have hn3 : 0 < n3 := by omega
      have hlim : n3 ≤ 140737488355000 := by omega
      have HC : Hid (getTb (b.take (kk % n3)) = .error 10) := getTb_cut HG.out (by rw [← hl3]; exact Nat.mod_lt kk hn3)
      have HM : Hid (getTb (b ++ [UInt8.ofNat mb]) = .error 23) := getTb_more (UInt8.ofNat mb) HG.out
      have HL3 := Lib.hid hl3
      clear hle hwt hpos hl3
      have hand := HAND.out
      have hcut3 := run_headm A3 n3 c3 kk hn3 hcap
      have hmod := Nat.mod_lt kk hn3
      go_wp2_with fail
      have H4 := tGet_any (HO3.out.sl.take (kk % n3) (by omega)) (by omega) (HPL.out.after HB3.out)
      rw [show (wval (.ok b) : B) = b from rfl, HC.out] at H4
      refine H4.mono ?_
      clear H4
      rintro e w4 ⟨c4, d4, q4, rfl, _, hb4⟩
      have HO4 := Lib.hid (HO3.out.after hb4)
      have HB4 := Lib.hid (HB3.out.trans (hb4.mono HB3.out.size))
      clear hb4 HO3 HB3
      simp only [eE]
      go_upto_region 11 with (first | (refine wpList_store_newB (by rfl) 29 _ _ (by rfl) _ _ _ _ (by rfl) (by rfl) (by simp) (by rfl) (by kernel_rfl) (by rfl) (by rfl) ?_; intro w5 hb5 hz5 hx5))
      have HO5 := Lib.hid (HO4.out.after hb5)
      have HB5 := Lib.hid (HB4.out.trans (hb5.mono HB4.out.size))
      clear hb5 hz5 hx5 HO4 HB4
      have hba : Below w5.heap.size w5 (w5.alloc (.cells #[.int .u8 (mb : Int)] 5)) := (Below.refl _ _).alloc (Nat.le_refl _) _
      have HOA := Lib.hid (HO5.out.after hba)
      have HBA := Lib.hid (HB5.out.trans (hba.mono HB5.out.size))
      have HSM : Hid (Sl (fun b => w5.heap.size ≤ b) (w5.alloc (.cells #[.int .u8 (mb : Int)] 5)) (some ⟨w5.heap.size, 0, none⟩) 1 1 [UInt8.ofNat mb]) := sl_lit w5 #[.int .u8 (mb : Int)] 1 [UInt8.ofNat mb] (bv_one8 hmb) (by rfl) (by decide) rfl
      clear hba HO5 HB5
      go_wp2_with (first | (at_builtin; go_loud (refine wpList_appw rfl _ _ rfl w.heap.size _ _ _ _ rfl HOA.out _ _ _ _ [UInt8.ofNat mb] rfl HSM.out (by simp only [wval_ok, List.length_cons, List.length_nil]; have := HL3.out; omega) HBA.out.size ?_); intro A6 n6 c6 w6 ho6 hg6 hw6; have HO6 := Lib.hid ho6; have HB6 := Lib.hid (below_grow HBA.out hg6 HBA.out.size (fun b e => (HOA.out.block b e).1)); clear ho6 hg6 hw6))
      have H7 := tGet_any HO6.out.sl (by have := HO6.out.len; have := HL3.out; simp only [wval_ok, List.length_append, List.length_cons, List.length_nil] at *; omega) (HPL.out.after HB6.out)
      rw [show (wval (.ok b) : B) = b from rfl, HM.out] at H7
      refine H7.mono ?_
      clear H7
      rintro e w7 ⟨c7, d7, q7, rfl, _, hb7⟩
      have HB7 := Lib.hid (HB6.out.trans (hb7.mono HB6.out.size))
      clear hb7
      simp only [eE]
      go_upto_region 12 with (first | (refine wpList_store_newB (by rfl) 29 _ _ (by rfl) _ _ _ _ (by rfl) (by rfl) (by simp) (by rfl) (by kernel_rfl) (by rfl) (by rfl) ?_; intro w8 hb8 hz8 hx8))
      have hbw := HB7.out.trans (hb8.mono HB7.out.size)
      clear hb8 hz8 hx8
      go_wp2_with fail
      go_ret
      exact ⟨rfl, hbw⟩
end Go.Proofs.Sb
