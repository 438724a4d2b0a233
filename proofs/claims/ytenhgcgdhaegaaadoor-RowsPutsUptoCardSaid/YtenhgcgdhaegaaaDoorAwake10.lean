/- The walk over signalboxlaw10.awake: true. Conditions: the table of names reads as it was laid. (written by gen_awake10.py) -/
import Derived.Test.YtenhgcgdhaegaaaDoorTal
import Derived.Test.YtenhgcgdhaegaaaDoorTaq
import Derived.Test.YtenhgcgdhaegaaaDoorTap
set_option linter.unusedVariables false
set_option linter.unusedSimpArgs false
namespace Sb
def bsG : B := [0, 0, 0, 4, 0, 0, 0, 1, 0, 0, 0, 1, 0, 0, 0, 1, 9]
def tbG : Tb := ⟨1, [], false, Val.none, [[⟨2, [9]⟩]]⟩
def colU : Col := ⟨[], [], [97], ⟨9, [], [], [], []⟩⟩
def tbU : Tb := ⟨1, [colU], false, Val.none, [[⟨2, [7]⟩]]⟩
def bsU : B := [0, 0, 0, 1, 0, 0, 0, 1, 0, 0, 0, 0, 0, 1, 97, 0, 9, 0, 0, 0, 1, 0, 0, 0, 1, 7]
theorem got_G : getTb bsG = .ok tbG := by kernel_rfl
theorem got_8 : getTb [0, 0, 0, 8] = .error 21 := by kernel_rfl
theorem put_U : putTb 1 tbU true = .ok bsU := by kernel_rfl
theorem meta_U : getMeta bsU = .error 10 := by kernel_rfl
theorem cell_U : cellT tbU 0 [97] = some ⟨2, [7]⟩ := by kernel_rfl
end Sb
namespace Go.Proofs.Sb
open Go.RowKit _root_.Sb
theorem tbU_R {w3 W : World} (h : Below ((((w3.alloc (.cells #[.string ⟨#[]⟩, .string ⟨#[]⟩, .string ⟨#[97]⟩, .int .u16 9, .string ⟨#[]⟩, .string ⟨#[]⟩, .slice none 0 0, .slice none 0 0] 64)).alloc (.cells #[.int .u8 7] 5)).alloc (.cells #[.int .i64 2, .slice (some ⟨w3.heap.size + 1, 0, none⟩) 1 1] 26)).alloc (.cells #[.slice (some ⟨w3.heap.size + 1 + 1, 0, none⟩) 1 1] 65)).heap.size ((((w3.alloc (.cells #[.string ⟨#[]⟩, .string ⟨#[]⟩, .string ⟨#[97]⟩, .int .u16 9, .string ⟨#[]⟩, .string ⟨#[]⟩, .slice none 0 0, .slice none 0 0] 64)).alloc (.cells #[.int .u8 7] 5)).alloc (.cells #[.int .i64 2, .slice (some ⟨w3.heap.size + 1, 0, none⟩) 1 1] 26)).alloc (.cells #[.slice (some ⟨w3.heap.size + 1 + 1, 0, none⟩) 1 1] 65)) W) : TbR 9223372036854775807 0 (fun _ => True) W (some ⟨w3.heap.size, 0, none⟩, 1, 1) Pl3.none (some ⟨w3.heap.size + 1 + 1 + 1, 0, none⟩, 1, 1) tbU := by
  have h1 : Below (w3.alloc (.cells #[.string ⟨#[]⟩, .string ⟨#[]⟩, .string ⟨#[97]⟩, .int .u16 9, .string ⟨#[]⟩, .string ⟨#[]⟩, .slice none 0 0, .slice none 0 0] 64)).heap.size (w3.alloc (.cells #[.string ⟨#[]⟩, .string ⟨#[]⟩, .string ⟨#[97]⟩, .int .u16 9, .string ⟨#[]⟩, .string ⟨#[]⟩, .slice none 0 0, .slice none 0 0] 64)) W := Below.trans (by repeat (first | exact Below.refl _ _ | assumption | refine Below.drew ?_ | refine below_drewN ?_ _ | refine Below.alloc ?_ (by first | (simp; done) | omega | (simp; omega)) _ | refine Below.setCell ?_ (by first | (simp; done) | omega | (simp; omega)) _)) (h.mono (by first | (simp; done) | (simp; omega)))
  have h2 : Below ((w3.alloc (.cells #[.string ⟨#[]⟩, .string ⟨#[]⟩, .string ⟨#[97]⟩, .int .u16 9, .string ⟨#[]⟩, .string ⟨#[]⟩, .slice none 0 0, .slice none 0 0] 64)).alloc (.cells #[.int .u8 7] 5)).heap.size ((w3.alloc (.cells #[.string ⟨#[]⟩, .string ⟨#[]⟩, .string ⟨#[97]⟩, .int .u16 9, .string ⟨#[]⟩, .string ⟨#[]⟩, .slice none 0 0, .slice none 0 0] 64)).alloc (.cells #[.int .u8 7] 5)) W := Below.trans (by repeat (first | exact Below.refl _ _ | assumption | refine Below.drew ?_ | refine below_drewN ?_ _ | refine Below.alloc ?_ (by first | (simp; done) | omega | (simp; omega)) _ | refine Below.setCell ?_ (by first | (simp; done) | omega | (simp; omega)) _)) (h.mono (by first | (simp; done) | (simp; omega)))
  have h3 : Below (((w3.alloc (.cells #[.string ⟨#[]⟩, .string ⟨#[]⟩, .string ⟨#[97]⟩, .int .u16 9, .string ⟨#[]⟩, .string ⟨#[]⟩, .slice none 0 0, .slice none 0 0] 64)).alloc (.cells #[.int .u8 7] 5)).alloc (.cells #[.int .i64 2, .slice (some ⟨w3.heap.size + 1, 0, none⟩) 1 1] 26)).heap.size (((w3.alloc (.cells #[.string ⟨#[]⟩, .string ⟨#[]⟩, .string ⟨#[97]⟩, .int .u16 9, .string ⟨#[]⟩, .string ⟨#[]⟩, .slice none 0 0, .slice none 0 0] 64)).alloc (.cells #[.int .u8 7] 5)).alloc (.cells #[.int .i64 2, .slice (some ⟨w3.heap.size + 1, 0, none⟩) 1 1] 26)) W := Below.trans (by repeat (first | exact Below.refl _ _ | assumption | refine Below.drew ?_ | refine below_drewN ?_ _ | refine Below.alloc ?_ (by first | (simp; done) | omega | (simp; omega)) _ | refine Below.setCell ?_ (by first | (simp; done) | omega | (simp; omega)) _)) (h.mono (by simp))
  refine ⟨?_, Sl.nil, ?_⟩
  · exact ((arr_lit (P := colP 9223372036854775807 0 (fun _ => True) W) w3 #[.string ⟨#[]⟩, .string ⟨#[]⟩, .string ⟨#[97]⟩, .int .u16 9, .string ⟨#[]⟩, .string ⟨#[]⟩, .slice none 0 0, .slice none 0 0] colU rfl ⟨none, 0, 0, none, 0, 0, rfl, by decide, by decide, by decide, by decide, by decide, by decide, Arr.nil, Arr.nil⟩ rfl).after h1).mono fun _ _ _ => trivial
  · refine ((arr_lit (P := vrowP (fun _ => True) W) (((w3.alloc (.cells #[.string ⟨#[]⟩, .string ⟨#[]⟩, .string ⟨#[97]⟩, .int .u16 9, .string ⟨#[]⟩, .string ⟨#[]⟩, .slice none 0 0, .slice none 0 0] 64)).alloc (.cells #[.int .u8 7] 5)).alloc (.cells #[.int .i64 2, .slice (some ⟨w3.heap.size + 1, 0, none⟩) 1 1] 26)) #[.slice (some ⟨w3.heap.size + 1 + 1, 0, none⟩) 1 1] [⟨2, [7]⟩] rfl ⟨_, _, _, rfl, ?_⟩ (by simp)).after h).mono fun _ _ _ => trivial
    refine ((arr_lit (P := valP (fun _ => True) W) ((w3.alloc (.cells #[.string ⟨#[]⟩, .string ⟨#[]⟩, .string ⟨#[97]⟩, .int .u16 9, .string ⟨#[]⟩, .string ⟨#[]⟩, .slice none 0 0, .slice none 0 0] 64)).alloc (.cells #[.int .u8 7] 5)) #[.int .i64 2, .slice (some ⟨w3.heap.size + 1, 0, none⟩) 1 1] ⟨2, [7]⟩ rfl ⟨_, _, _, rfl, ?_⟩ (by simp)).after h3).mono fun _ _ _ => trivial
    exact ((sl_lit (w3.alloc (.cells #[.string ⟨#[]⟩, .string ⟨#[]⟩, .string ⟨#[97]⟩, .int .u16 9, .string ⟨#[]⟩, .string ⟨#[]⟩, .slice none 0 0, .slice none 0 0] 64)) #[.int .u8 7] 1 [7] rfl rfl (by decide) (by simp)).after h2).mono fun _ _ _ => trivial
set_option maxHeartbeats 4000000 in
set_option maxRecDepth 100000 in
theorem awake10 {w : World} (hpl : Pl w) : Calls Tryd.prog 9 #[] w fun e w' => e = .returned (.bool true) ∧ Below w.heap.size w w' := by
  have HPL := Lib.hid hpl; clear hpl
  go_enter Tryd.func9, Tryd.ntmps9
  go_wp2_with fail
  have H1 := tGet_any (sl_lit w #[.int .u8 0, .int .u8 0, .int .u8 0, .int .u8 4, .int .u8 0, .int .u8 0, .int .u8 0, .int .u8 1, .int .u8 0, .int .u8 0, .int .u8 0, .int .u8 1, .int .u8 0, .int .u8 0, .int .u8 0, .int .u8 1, .int .u8 9] 17 bsG (by rfl) (by rfl) (by decide) (g := w.heap.size) rfl) (by decide) (HPL.out.after (by repeat (first | exact Below.refl _ _ | assumption | refine Below.drew ?_ | refine below_drewN ?_ _ | refine Below.alloc ?_ (by first | (simp; done) | omega | (simp; omega)) _ | refine Below.setCell ?_ (by first | (simp; done) | omega | (simp; omega)) _)))
  rw [got_G] at H1
  refine H1.mono ?_
  clear H1
  rintro e w1 ⟨c1, d1, q1, rfl, ht1, hb1⟩
  have hb1' : Below w.heap.size w w1 := Below.trans (by repeat (first | exact Below.refl _ _ | assumption | refine Below.drew ?_ | refine below_drewN ?_ _ | refine Below.alloc ?_ (by first | (simp; done) | omega | (simp; omega)) _ | refine Below.setCell ?_ (by first | (simp; done) | omega | (simp; omega)) _)) (hb1.mono (by simp))
  have hq1 : q1.2.1 = 1 := ht1.rw.len
  obtain ⟨b, off, hbo, _, hbs, HC⟩ := ht1.rw.at (by decide) (by rw [hq1]; decide)
  obtain ⟨v, hv1, hp, hv2⟩ := HC 0 [⟨2, [9]⟩] rfl
  obtain ⟨LA, LN, LK, rfl, hlr⟩ := hp
  obtain rfl : LN = 1 := hlr.len
  have HL := Lib.hid (hv2 0 _ rfl)
  simp only [Nat.zero_mul, Nat.add_zero] at HL
  obtain ⟨qA, qN, qK⟩ := q1
  dsimp only at hbo hq1
  subst hbo hq1
  have HB1 := Lib.hid hb1'
  clear ht1 hb1 hb1' HC hv1 hv2 hlr hbs
  simp only [eV, eE, tabV, tbG, Val.none]
  go_upto_region 2 with (first | (refine wpList_store_newB (by rfl) 29 _ _ (by rfl) _ _ _ _ (by rfl) (by rfl) (by simp) (by rfl) (by kernel_rfl) (by rfl) (by rfl) ?_; intro w1b hb1b hz1b hx1b))
  have HX1 := Lib.hid hx1b
  have HL1 := Lib.hid (kcell hb1b HL.out)
  have HB1b := Lib.hid (HB1.out.trans (hb1b.mono HB1.out.size))
  clear hb1b hx1b HL HB1 hz1b
  go_wp2_with fail
  have H2 := tGet_any (sl_lit w1b #[.int .u8 0, .int .u8 0, .int .u8 0, .int .u8 8] 4 [0, 0, 0, 8] (by rfl) (by rfl) (by decide) (g := w1b.heap.size) rfl) (by decide) ((HPL.out.after HB1b.out).after (by repeat (first | exact Below.refl _ _ | assumption | refine Below.drew ?_ | refine below_drewN ?_ _ | refine Below.alloc ?_ (by first | (simp; done) | omega | (simp; omega)) _ | refine Below.setCell ?_ (by first | (simp; done) | omega | (simp; omega)) _)))
  rw [got_8] at H2
  refine H2.mono ?_
  clear H2
  rintro e w2 ⟨c2, d2, q2, rfl, _, hb2⟩
  have hb2' : Below w1b.heap.size w1b w2 := Below.trans (by repeat (first | exact Below.refl _ _ | assumption | refine Below.drew ?_ | refine below_drewN ?_ _ | refine Below.alloc ?_ (by first | (simp; done) | omega | (simp; omega)) _ | refine Below.setCell ?_ (by first | (simp; done) | omega | (simp; omega)) _)) (hb2.mono (by simp))
  have HX2 := Lib.hid (goesBx.after HX1.out hb2')
  have HL2 := Lib.hid (kcell hb2' HL1.out)
  have HB2 := Lib.hid (HB1b.out.trans (hb2'.mono HB1b.out.size))
  clear hb2 hb2' HX1 HL1 HB1b
  simp only [eV, eE, tabV, Tb.none, Val.none]
  go_upto_region 3 with (first | (refine wpList_store_newB (by rfl) 29 _ _ (by rfl) _ _ _ _ (by rfl) (by rfl) (by simp) (by rfl) (by kernel_rfl) (by rfl) (by rfl) ?_; intro w3 hb3 hz3 hx3))
  have HX3 := Lib.hid (goesBx.after HX2.out hb3)
  have HL3 := Lib.hid (kcell hb3 HL2.out)
  have HB3 := Lib.hid (HB2.out.trans (hb3.mono HB2.out.size))
  clear hb3 hx3 HX2 HL2 HB2 hz3
  go_upto_region 4 with (first | (refine wpList_store_newB (by rfl) 29 _ _ (by rfl) _ _ _ _ (by rfl) (by rfl) (by simp) (by rfl) (by kernel_rfl) (by rfl) (by rfl) ?_; intro w4 hb4 hz4 hx4))
  have HTU := Lib.hid (tbU_R hb4)
  have hb34 : Below w3.heap.size w3 w4 := Below.trans (by repeat (first | exact Below.refl _ _ | assumption | refine Below.drew ?_ | refine below_drewN ?_ _ | refine Below.alloc ?_ (by first | (simp; done) | omega | (simp; omega)) _ | refine Below.setCell ?_ (by first | (simp; done) | omega | (simp; omega)) _)) (hb4.mono (by simp; omega))
  have HX5 : Hid (Bx (fun b => b = w3.heap.size + 1 + 1 + 1 + 1) w4 (w3.heap.size + 1 + 1 + 1 + 1) [.int .i64 1, .slice (some ⟨w3.heap.size, 0, none⟩) 1 1, .bool false, .int .i64 0, .slice none 0 0, .slice (some ⟨w3.heap.size + 1 + 1 + 1, 0, none⟩) 1 1]) := by
    have h := hx4
    simp only [World.size_alloc] at h
    exact h
  have HX4 := Lib.hid (goesBx.after HX3.out hb34)
  have HL4 := Lib.hid (kcell hb34 HL3.out)
  have HB4 := Lib.hid (HB3.out.trans (hb34.mono HB3.out.size))
  clear hb34 hb4 hz4 hx4 HX3 HL3 HB3
  go_wp2_with (first | (refine wpList_loadB HX5.out (by rfl) 29 _ (by rfl) (by rfl) _ Tryd.underlying29 rfl (by kernel_rfl) ?_))
  have H5 := tPut_any (dp := 0) (one := true) HTU.out (by decide) (HPL.out.after HB4.out) (by decide) (by intro x hx; simp only [tbU, List.mem_singleton] at hx; subst hx; decide)
  rw [put_U] at H5
  refine H5.mono ?_
  clear H5
  rintro e w5 ⟨P, pn, pc, rfl, ho5, hb5⟩
  obtain rfl : pn = 26 := ho5.len
  have HS5 := Lib.hid ho5.slb
  have HTU5 := Lib.hid (HTU.out.after hb5)
  have HX5b := Lib.hid (goesBx.after HX5.out hb5)
  have HX4b := Lib.hid (goesBx.after HX4.out hb5)
  have HL5 := Lib.hid (kcell hb5 HL4.out)
  have HB5 := Lib.hid (HB4.out.trans (hb5.mono HB4.out.size))
  clear hb5 ho5 HTU HX5 HX4 HL4 HB4
  go_wp2_with (first | (refine wpList_loadB HX5b.out (by rfl) 29 _ (by rfl) (by rfl) _ Tryd.underlying29 rfl (by kernel_rfl) ?_))
  have H6 := tCell_any (row := 0) (nm := [97]) HTU5.out
  rw [cell_U] at H6
  refine H6.mono ?_
  clear H6
  rintro e w6 ⟨Y, yn, yc, rfl, hs6, hb6⟩
  obtain rfl : yn = 1 := hs6.len
  have HS6 := Lib.hid (HS5.out.after hb6)
  have HX6 := Lib.hid (goesBx.after HX4b.out hb6)
  have HL6 := Lib.hid (kcell hb6 HL5.out)
  have HB6 := Lib.hid (HB5.out.trans (hb6.mono HB5.out.size))
  clear hb6 hs6 HTU5 HX5b HX4b HL5 HB5 HS5
  simp only [Option.getD_some, Option.isSome_some]
  go_upto_region 6 with (first | (refine wpList_store_newB (by rfl) 26 _ _ (by rfl) _ _ _ _ (by rfl) (by rfl) (by simp) (by rfl) (by kernel_rfl) (by rfl) (by rfl) ?_; intro w7 hb7 hz7 hx7))
  have HY7 := Lib.hid hx7
  have HS7 := Lib.hid (HS6.out.after hb7)
  have HX7 := Lib.hid (goesBx.after HX6.out hb7)
  have HL7 := Lib.hid (kcell hb7 HL6.out)
  have HB7 := Lib.hid (HB6.out.trans (hb7.mono HB6.out.size))
  clear hb7 hx7 hz7 HX6 HL6 HB6 HS6
  go_wp2_with fail
  have H8 := tMeta_any HS7.out (by decide) (HPL.out.after HB7.out)
  rw [show (wval (.ok bsU) : B) = bsU from rfl, meta_U] at H8
  refine H8.mono ?_
  clear H8
  rintro e w8 ⟨a8, c8, d8, c9, d9, rfl, _, _, _, hb8⟩
  have HY8 := Lib.hid (goesBx.after HY7.out hb8)
  have HX8 := Lib.hid (goesBx.after HX7.out hb8)
  have HL8 := Lib.hid (kcell hb8 HL7.out)
  have HB8 := Lib.hid (HB7.out.trans (hb8.mono HB7.out.size))
  clear hb8 HY7 HX7 HL7 HB7 HS7
  simp only [eV, eE, mNone, metaV, Tb.none, Val.none]
  go_upto_region 7 with (first | (refine wpList_store_newB (by rfl) 46 _ _ (by rfl) _ _ _ _ (by rfl) (by rfl) (by simp) (by rfl) (by kernel_rfl) (by rfl) (by rfl) ?_; intro w9 hb9 hz9 hx9))
  have hy := goesBx.after HY8.out hb9
  have hx := goesBx.after HX8.out hb9
  have hl := kcell hb9 HL8.out
  have hbw := HB8.out.trans (hb9.mono HB8.out.size)
  have y1 := hy.c 1 _ rfl
  have x0 := hx.c 0 _ rfl
  have x5 := hx.c 5 _ rfl
  clear hb9 hx9 hz9 hy hx
  go_wp2_with fail
  go_ret
  exact ⟨rfl, hbw⟩
end Go.Proofs.Sb
