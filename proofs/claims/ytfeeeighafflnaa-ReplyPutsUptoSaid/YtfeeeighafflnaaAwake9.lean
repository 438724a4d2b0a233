/- The walk over signalboxlaw09.awake: true. No conditions. -/
import Derived.Test.YtfeeeighafflnaaStp
import Derived.Test.YtfeeeighafflnaaStk
import Derived.Test.YtfeeeighafflnaaStq
import Derived.Lib.SlBytesConst
set_option linter.unusedVariables false
set_option linter.unusedSimpArgs false
namespace Go.Proofs.Sb
open Go.RowKit _root_.Sb

theorem sl_const (w : World) (vs : Array Value) (n : Nat) (bs : B) (fz : Nat × Nat) (h : vs.toList = bv bs) (hn : n = bs.length) (hm : n ≤ maxLen) {g : Nat} (hg : g = w.heap.size) : Sl (fun b => w.heap.size ≤ b) (w.alloc (.cells vs 5 fz)) (some ⟨g, 0, none⟩) n n bs := by
  subst hg
  refine ⟨hn, Nat.le_refl _, hm, fun _ => ⟨w.heap.size, 0, rfl, Nat.le_refl _, by simp, fun j u hu => ?_⟩⟩
  rw [← h] at hu
  have hb : (w.alloc (.cells vs 5 fz)).heap[w.heap.size]? = some (.cells vs 5 fz) := by
    show (w.heap.push _)[w.heap.size]? = _
    simp
  unfold World.cell?
  simp only [hb]
  simpa using hu
def aw3 : Rp := { Rp.of 8 with kind := 3, text := [107] }
def aw4 : Rp := { Rp.of 12 with note := ⟨wStatus, wUp, ⟨[1, 2, 3, 4], 9⟩, Chg.none⟩ }
def aw4b : B := [0, 13, 83, 84, 65, 84, 85, 83, 95, 67, 72, 65, 78, 71, 69, 0, 2, 85, 80, 4, 1, 2, 3, 4, 0, 0, 0, 9]
set_option maxHeartbeats 4000000 in
set_option maxRecDepth 100000 in
theorem awake9 (w : World) : Calls Try.prog 8 #[] w fun e w' => e = .returned (.bool true) ∧ Below w.heap.size w w' := by
  have kc := fun (w : World) (C : Array Value) (n c : Nat) => Lib.run_convert_bytes_const (P := Try.prog) w 22 5 C n c Try.underlying22 Try.underlying5
  go_enter Try.func8, Try.ntmps8
  go_wp2_with fail
  refine (rGet9_any (op := 2) (A := none) (n := 0) (c := 0) (bs := []) (S := fun _ => False) Sl.nil (by decide) (.ok (Rp.of 2)) (by kernel_rfl)).mono ?_
  rintro e w1 ⟨t1, rfl, hq1, hb1⟩
  have HB1 := Lib.hid hb1
  clear hq1 hb1
  rw [show rpOf (.ok (Rp.of 2)) = Rp.of 2 from rfl, show erP (.ok (Rp.of 2)) = 0 from rfl]
  go_wp2_with (first | (refine wpList_store_newB (by rfl) 39 _ _ (by rfl) _ _ _ _ (by rfl) (by rfl) (by simp) (by rfl) (by kernel_rfl) (by rfl) (by rfl) ?_; intro w2 hb2 hz2 hx2; have hl2 : w1.heap.size < w2.heap.size := (by omega); clear hz2; have HB2 := Lib.hid (HB1.out.trans (hb2.mono HB1.out.size)); have HX2 := Lib.hid hx2; clear hb2 hx2))
  refine (rGet9_any (op := 8) (sl_lit _ _ 4 [0, 0, 0, 9] (by rfl) (by rfl) (by decide) (by first | rfl | simp)) (by decide) (.error 11) (by kernel_rfl)).mono ?_
  rintro e w3 ⟨t3, rfl, hq3, hb3⟩
  have hb23 : Below w2.heap.size w2 w3 := Below.trans (Below.alloc (Below.refl _ _) (Nat.le_refl _) _) (hb3.mono (by simp))
  have HB3 := Lib.hid (HB2.out.trans (hb23.mono HB2.out.size))
  have HX3 := Lib.hid (goesBx.after HX2.out hb23)
  have hl3 : w1.heap.size < w3.heap.size := by have := hb23.size; omega
  clear hq3 hb3 hb23
  rw [show rpOf (.error 11) = Rp.none from rfl, show erP (.error 11) = 11 from rfl]
  go_wp2_with (first | (refine wpList_store_newB (by rfl) 39 _ _ (by rfl) _ _ _ _ (by rfl) (by rfl) (by simp) (by rfl) (by kernel_rfl) (by rfl) (by rfl) ?_; intro w4 hb4 hz4 hx4; have hl4 : w1.heap.size < w4.heap.size := (by omega); clear hz4 hx4; have HB4 := Lib.hid (HB3.out.trans (hb4.mono HB3.out.size)); have HX4 := Lib.hid (goesBx.after HX3.out hb4); clear hb4) | (refine wpList_built (by rfl) 39 _ (by rfl) (rpT aw3 .z).toArray (by kernel_rfl) ?_))
  refine (rPut9_any (S := fun _ => False) (x := aw3) (t := .z) ⟨Arr.nil, Sl.nil, Arr.nil, Sl.nil, Sl.nil, Arr.nil, Arr.nil, Sl.nil, Sl.nil⟩ { rpB_of (op := 8) (by decide) with rkind := (by decide : (3 : Nat) < 4294967296), text := (by unfold strOk; decide : strOk [107]) } (rpQ_of (L := 0) (x := aw3) { rpB_of (op := 8) (by decide) with rkind := (by decide : (3 : Nat) < 4294967296), text := (by unfold strOk; decide : strOk [107]) } rfl).2 (.ok [0, 0, 0, 3, 0, 1, 107]) (by kernel_rfl)).mono ?_
  rintro e w5 ⟨A5, n5, c5, rfl, hs5, hb5⟩
  have HB5 := Lib.hid (HB4.out.trans (hb5.mono HB4.out.size))
  have HX5 := Lib.hid (goesBx.after HX4.out hb5)
  have hl5 : w1.heap.size < w5.heap.size := by have := hb5.size; omega
  have HS5 := Lib.hid hs5
  clear hs5 hb5
  go_wp2_with fail
  refine (rGet9_any (op := 12) (sl_const _ _ 28 aw4b _ (by rfl) (by rfl) (by decide) (by first | rfl | simp)) (by decide) (.ok aw4) (by kernel_rfl)).mono ?_
  rintro e w6 ⟨t6, rfl, hq6, hb6⟩
  have hb56 : Below w5.heap.size w5 w6 := Below.trans (Below.alloc (Below.refl _ _) (Nat.le_refl _) _) (hb6.mono (by simp))
  have HB6 := Lib.hid (HB5.out.trans (hb56.mono HB5.out.size))
  have HX6 := Lib.hid (goesBx.after HX5.out hb56)
  have HS6 := Lib.hid (HS5.out.after hb56)
  have hl6 : w1.heap.size < w6.heap.size := by have := hb56.size; omega
  clear hq6 hb6 hb56
  rw [show rpOf (.ok aw4) = aw4 from rfl, show erP (.ok aw4) = 0 from rfl]
  go_wp2_with (first | (refine wpList_store_newB (by rfl) 39 _ _ (by rfl) _ _ _ _ (by rfl) (by rfl) (by simp) (by rfl) (by kernel_rfl) (by rfl) (by rfl) ?_; intro w7 hb7 hz7 hx7; have hl7 : w1.heap.size < w7.heap.size := (by omega); have hm7 : w6.heap.size < w7.heap.size := (by omega); clear hz7; have HB7 := Lib.hid (HB6.out.trans (hb7.mono HB6.out.size)); have HX7 := Lib.hid (goesBx.after HX6.out hb7); have HS7 := Lib.hid (HS6.out.after hb7); have HY7 := Lib.hid hx7; clear hb7 hx7))
  refine (rGet9_any (op := 7) (A := none) (n := 0) (c := 0) (bs := []) (S := fun _ => False) Sl.nil (by decide) (.error 22) (by kernel_rfl)).mono ?_
  rintro e w8 ⟨t8, rfl, hq8, hb8⟩
  have HB8 := Lib.hid (HB7.out.trans (hb8.mono HB7.out.size))
  have HX8 := Lib.hid (goesBx.after HX7.out hb8)
  have HY8 := Lib.hid (goesBx.after HY7.out hb8)
  have HS8 := Lib.hid (HS7.out.after hb8)
  have hl8 : w1.heap.size < w8.heap.size := by have := hb8.size; omega
  have hm8 : w6.heap.size < w8.heap.size := by have := hb8.size; omega
  clear hq8 hb8
  rw [show rpOf (.error 22) = Rp.none from rfl, show erP (.error 22) = 22 from rfl]
  go_wp2_with (first | (refine wpList_store_newB (by rfl) 39 _ _ (by rfl) _ _ _ _ (by rfl) (by rfl) (by simp) (by rfl) (by kernel_rfl) (by rfl) (by rfl) ?_; intro w9 hb9 hz9 hx9; clear hz9 hx9; have HB9 := Lib.hid (HB8.out.trans (hb9.mono HB8.out.size)); have p1 : w9.cell? ⟨w1.heap.size, 0, none⟩ = some (.int .u8 2) := (goesBx.after HX8.out hb9).c 0 _ rfl; have p2 : w9.cell? ⟨w6.heap.size, 18, none⟩ = some (.string (str wUp)) := (goesBx.after HY8.out hb9).c 18 _ rfl; have p3 : w9.cell? ⟨w6.heap.size, 20, none⟩ = some (.int .u32 9) := (goesBx.after HY8.out hb9).c 20 _ rfl; have hcv := conv_sl (HS8.out.after hb9); have hl9 : w1.heap.size < w9.heap.size := (by have := hb9.size; omega); have hm9 : w6.heap.size < w9.heap.size := (by have := hb9.size; omega); clear hb9))
  go_ret
  exact ⟨rfl, HB9.out⟩
end Go.Proofs.Sb
