/- Walks over signalboxref09.write. Conditions: lengths up to 2^47. (written by gen_ryh.py) -/
import Derived.Test.YtfeeeighafflnaaGreatRyc
import Derived.Test.YtfeeeighafflnaaGreatRefb
import Derived.Test.YtfeeeighafflnaaGreatRefc
import Derived.Test.YtfeeeighafflnaaGreatOwng
set_option linter.unusedVariables false
set_option linter.unusedSimpArgs false
namespace Go.Proofs.Sb
open Go.RowKit _root_.Sb

/-- the bounds of the reference's reply -/
structure RfB (x : Rf) : Prop where
  code : x.code < 4294967296
  text : strOk x.text
  level : x.level < 65536
  received : i32 x.received
  needed : i32 x.needed
  failures : i32 x.failures
  data : x.data < 256
  write : strOk x.write
  space : strOk x.space
  name : strOk x.name
  ident : strOk x.ident
  token : x.token.bytes.length ≤ 140737488351232
  event : strOk x.event
  what : strOk x.what
  addr : strOk x.addr.addr
  port : x.addr.port < 4294967296
  chg : ChgB x.change
  kind : x.kind < 4294967296
  rest : x.rest.length ≤ 140737488000000
  nsup : ∀ y ∈ x.support, y.2.length ≤ 1000000
  sup : ∃ M, (∀ y ∈ x.support, ∀ b, multiW y = .ok b → b.length ≤ M) ∧ 65537 ≤ M ∧ 2 + x.support.length * M ≤ 140737488000000
/-- what a letter's writing ends in -/
def WrP (w : World) (res : Wr) (e : Ending) (w' : World) : Prop := ∃ A n c, e = .returned (.tuple #[.slice A n c, .int .i64 (werr res)]) ∧ Sl (fun b => w.heap.size ≤ b) w' A n c (wval res) ∧ Below w.heap.size w w'
theorem item0_len (l : List B) : ∀ x ∈ l.map Thing.ofText, ∀ b, itemW 0 x = .ok b → b.length ≤ 65537 := by
  intro x hx b hb
  obtain ⟨s, _, rfl⟩ := List.mem_map.1 hx
  exact (text_len (s := s) (by simpa [itemW, itemV, Thing.ofText, bothW_nil] using hb)).1
theorem item2_len {l : List (B × List B)} {M : Nat} (h : ∀ y ∈ l, ∀ b, multiW y = .ok b → b.length ≤ M) : ∀ x ∈ l.map Thing.ofMulti, ∀ b, itemW 2 x = .ok b → b.length ≤ M := by
  intro x hx b hb
  obtain ⟨s, hs, rfl⟩ := List.mem_map.1 hx
  exact h s hs b (by simpa [itemW, itemV, Thing.ofMulti, multiW] using hb)

set_option maxHeartbeats 4000000 in
set_option maxRecDepth 100000 in
theorem rwr_c {x : Rf} {t : Tfs} {w : World} (hR : RfR (fun b => b < w.heap.size) w x t) (hB : RfB x) :
    Calls Tryz.prog 16 #[.agg (rfV x t).toArray, .int .u8 99] w fun e w' => WrP w (writeL 99 x) e w' := by
  have HB := Lib.hid hB; clear hB
  obtain ⟨w1, hw1⟩ : ∃ w1, w1 = w.alloc (.cells (rfV x t).toArray 54) := ⟨_, rfl⟩
  have hB1 : Below w.heap.size w w1 := by rw [hw1]; exact (Below.refl _ _).alloc (Nat.le_refl _) _
  have HX1 : Hid (Bx (fun b => b = w.heap.size) w1 w.heap.size (rfV x t)) := Lib.hid (by rw [hw1]; exact Bx.alloc w (rfV x t).toArray 54 (X := w.heap.size) (S := fun b => b = w.heap.size) (by simp) (by simp))
  have HR1 := Lib.hid (goesRf.after hR hB1); clear hR
  have HB1 := Lib.hid hB1; clear hB1
  have HW := Lib.hid hw1; clear hw1
  have hlx := HX1.out.lt
  have HRES : Hid (writeL 99 x = .ok (enc 4 x.code)) := Lib.hid rfl
  have kf := HX1.out.c 1 _ rfl
  have hwr : IntKind.u64.wrap ((x.code : Nat) : Int) = ((x.code : Nat) : Int) := by
    have := HB.out.code
    simp [IntKind.wrap, IntKind.bits, IntKind.signed]
    omega
  go_enter Tryz.func16, Tryz.ntmps16
  go_upto_region 1 with fail
  rw [show w.alloc (.cells (rfV x t).toArray 54) = w1 from HW.out.symm]
  go_wp2_with fail
  refine (rput_any ((x.code : Nat) : Int) 4 _ (by decide) (by decide) (by omega) (by have := HB.out.code; omega)).mono ?_
  rintro e w2 ⟨A, n, c, rfl, ho, hb⟩
  have HO := Lib.hid ho; have HB2 := Lib.hid hb; clear ho hb
  clear HB
  go_wp2_with fail
  go_ret2
  rw [HRES.out]
  exact ⟨A, n, c, rfl, (show Sl _ w2 A n c (enc 4 _) from HO.out.sl.mono (fun b hb _ => by have := HB1.out.size; omega)), Below.trans HB1.out (HB2.out.mono HB1.out.size)⟩

set_option maxHeartbeats 4000000 in
set_option maxRecDepth 100000 in
theorem rwr_k {x : Rf} {t : Tfs} {w : World} (hR : RfR (fun b => b < w.heap.size) w x t) (hB : RfB x) :
    Calls Tryz.prog 16 #[.agg (rfV x t).toArray, .int .u8 107] w fun e w' => WrP w (writeL 107 x) e w' := by
  have HB := Lib.hid hB; clear hB
  obtain ⟨w1, hw1⟩ : ∃ w1, w1 = w.alloc (.cells (rfV x t).toArray 54) := ⟨_, rfl⟩
  have hB1 : Below w.heap.size w w1 := by rw [hw1]; exact (Below.refl _ _).alloc (Nat.le_refl _) _
  have HX1 : Hid (Bx (fun b => b = w.heap.size) w1 w.heap.size (rfV x t)) := Lib.hid (by rw [hw1]; exact Bx.alloc w (rfV x t).toArray 54 (X := w.heap.size) (S := fun b => b = w.heap.size) (by simp) (by simp))
  have HR1 := Lib.hid (goesRf.after hR hB1); clear hR
  have HB1 := Lib.hid hB1; clear hB1
  have HW := Lib.hid hw1; clear hw1
  have hlx := HX1.out.lt
  have HRES : Hid (writeL 107 x = .ok (enc 4 x.kind)) := Lib.hid rfl
  have kf := HX1.out.c 25 _ rfl
  have hwr : IntKind.u64.wrap ((x.kind : Nat) : Int) = ((x.kind : Nat) : Int) := by
    have := HB.out.kind
    simp [IntKind.wrap, IntKind.bits, IntKind.signed]
    omega
  go_enter Tryz.func16, Tryz.ntmps16
  go_upto_region 1 with fail
  rw [show w.alloc (.cells (rfV x t).toArray 54) = w1 from HW.out.symm]
  go_wp2_with fail
  refine (rput_any ((x.kind : Nat) : Int) 4 _ (by decide) (by decide) (by omega) (by have := HB.out.kind; omega)).mono ?_
  rintro e w2 ⟨A, n, c, rfl, ho, hb⟩
  have HO := Lib.hid ho; have HB2 := Lib.hid hb; clear ho hb
  clear HB
  go_wp2_with fail
  go_ret2
  rw [HRES.out]
  exact ⟨A, n, c, rfl, (show Sl _ w2 A n c (enc 4 _) from HO.out.sl.mono (fun b hb _ => by have := HB1.out.size; omega)), Below.trans HB1.out (HB2.out.mono HB1.out.size)⟩

set_option maxHeartbeats 4000000 in
set_option maxRecDepth 100000 in
theorem rwr_t {x : Rf} {t : Tfs} {w : World} (hR : RfR (fun b => b < w.heap.size) w x t) (hB : RfB x) :
    Calls Tryz.prog 16 #[.agg (rfV x t).toArray, .int .u8 116] w fun e w' => WrP w (writeL 116 x) e w' := by
  have HB := Lib.hid hB; clear hB
  obtain ⟨w1, hw1⟩ : ∃ w1, w1 = w.alloc (.cells (rfV x t).toArray 54) := ⟨_, rfl⟩
  have hB1 : Below w.heap.size w w1 := by rw [hw1]; exact (Below.refl _ _).alloc (Nat.le_refl _) _
  have HX1 : Hid (Bx (fun b => b = w.heap.size) w1 w.heap.size (rfV x t)) := Lib.hid (by rw [hw1]; exact Bx.alloc w (rfV x t).toArray 54 (X := w.heap.size) (S := fun b => b = w.heap.size) (by simp) (by simp))
  have HR1 := Lib.hid (goesRf.after hR hB1); clear hR
  have HB1 := Lib.hid hB1; clear hB1
  have HW := Lib.hid hw1; clear hw1
  have hlx := HX1.out.lt
  have HRES : Hid (writeL 116 x = text x.text) := Lib.hid rfl
  have kf := HX1.out.c 2 _ rfl
  go_enter Tryz.func16, Tryz.ntmps16
  go_upto_region 1 with fail
  rw [show w.alloc (.cells (rfV x t).toArray 54) = w1 from HW.out.symm]
  go_wp2_with fail
  refine (rtext_any x.text _ HB.out.text (text x.text) rfl).mono ?_
  rintro e w2 ⟨A, n, c, rfl, ho, hb⟩
  have HO := Lib.hid ho; have HB2 := Lib.hid hb; clear ho hb
  clear HB
  go_wp2_with fail
  go_ret2
  rw [HRES.out]
  exact ⟨A, n, c, rfl, HO.out.sl.mono (fun b hb _ => by have := HB1.out.size; omega), Below.trans HB1.out (HB2.out.mono HB1.out.size)⟩

set_option maxHeartbeats 4000000 in
set_option maxRecDepth 100000 in
theorem rwr_l {x : Rf} {t : Tfs} {w : World} (hR : RfR (fun b => b < w.heap.size) w x t) (hB : RfB x) :
    Calls Tryz.prog 16 #[.agg (rfV x t).toArray, .int .u8 108] w fun e w' => WrP w (writeL 108 x) e w' := by
  have HB := Lib.hid hB; clear hB
  obtain ⟨w1, hw1⟩ : ∃ w1, w1 = w.alloc (.cells (rfV x t).toArray 54) := ⟨_, rfl⟩
  have hB1 : Below w.heap.size w w1 := by rw [hw1]; exact (Below.refl _ _).alloc (Nat.le_refl _) _
  have HX1 : Hid (Bx (fun b => b = w.heap.size) w1 w.heap.size (rfV x t)) := Lib.hid (by rw [hw1]; exact Bx.alloc w (rfV x t).toArray 54 (X := w.heap.size) (S := fun b => b = w.heap.size) (by simp) (by simp))
  have HR1 := Lib.hid (goesRf.after hR hB1); clear hR
  have HB1 := Lib.hid hB1; clear hB1
  have HW := Lib.hid hw1; clear hw1
  have hlx := HX1.out.lt
  have HRES : Hid (writeL 108 x = cons x.level) := Lib.hid rfl
  have kf := HX1.out.c 3 _ rfl
  go_enter Tryz.func16, Tryz.ntmps16
  go_upto_region 1 with fail
  rw [show w.alloc (.cells (rfV x t).toArray 54) = w1 from HW.out.symm]
  go_wp2_with fail
  refine (rcons_any ((x.level : Nat) : Int) _ (by omega) (by have := HB.out.level; omega) (cons x.level) (by simp)).mono ?_
  rintro e w2 ⟨A, n, c, rfl, ho, hb⟩
  have HO := Lib.hid ho; have HB2 := Lib.hid hb; clear ho hb
  clear HB
  go_wp2_with fail
  go_ret2
  rw [HRES.out]
  exact ⟨A, n, c, rfl, HO.out.sl.mono (fun b hb _ => by have := HB1.out.size; omega), Below.trans HB1.out (HB2.out.mono HB1.out.size)⟩

set_option maxHeartbeats 4000000 in
set_option maxRecDepth 100000 in
theorem rwr_r {x : Rf} {t : Tfs} {w : World} (hR : RfR (fun b => b < w.heap.size) w x t) (hB : RfB x) :
    Calls Tryz.prog 16 #[.agg (rfV x t).toArray, .int .u8 114] w fun e w' => WrP w (writeL 114 x) e w' := by
  have HB := Lib.hid hB; clear hB
  obtain ⟨w1, hw1⟩ : ∃ w1, w1 = w.alloc (.cells (rfV x t).toArray 54) := ⟨_, rfl⟩
  have hB1 : Below w.heap.size w w1 := by rw [hw1]; exact (Below.refl _ _).alloc (Nat.le_refl _) _
  have HX1 : Hid (Bx (fun b => b = w.heap.size) w1 w.heap.size (rfV x t)) := Lib.hid (by rw [hw1]; exact Bx.alloc w (rfV x t).toArray 54 (X := w.heap.size) (S := fun b => b = w.heap.size) (by simp) (by simp))
  have HR1 := Lib.hid (goesRf.after hR hB1); clear hR
  have HB1 := Lib.hid hB1; clear hB1
  have HW := Lib.hid hw1; clear hw1
  have hlx := HX1.out.lt
  have HRES : Hid (writeL 114 x = num4W x.received) := Lib.hid rfl
  have kf := HX1.out.c 4 _ rfl
  have hwr : IntKind.u64.wrap (x.received % 4294967296) = x.received % 4294967296 := by
    simp [IntKind.wrap, IntKind.bits, IntKind.signed]
    omega
  go_enter Tryz.func16, Tryz.ntmps16
  go_upto_region 1 with fail
  rw [show w.alloc (.cells (rfV x t).toArray 54) = w1 from HW.out.symm]
  go_wp2_with fail
  refine (rput_any (x.received % 4294967296) 4 _ (by decide) (by decide) (by omega) (by omega)).mono ?_
  rintro e w2 ⟨A, n, c, rfl, ho, hb⟩
  have HO := Lib.hid ho; have HB2 := Lib.hid hb; clear ho hb
  clear HB
  go_wp2_with fail
  go_ret2
  rw [HRES.out]
  exact ⟨A, n, c, rfl, (show Sl _ w2 A n c (enc 4 _) from HO.out.sl.mono (fun b hb _ => by have := HB1.out.size; omega)), Below.trans HB1.out (HB2.out.mono HB1.out.size)⟩

set_option maxHeartbeats 4000000 in
set_option maxRecDepth 100000 in
theorem rwr_n {x : Rf} {t : Tfs} {w : World} (hR : RfR (fun b => b < w.heap.size) w x t) (hB : RfB x) :
    Calls Tryz.prog 16 #[.agg (rfV x t).toArray, .int .u8 110] w fun e w' => WrP w (writeL 110 x) e w' := by
  have HB := Lib.hid hB; clear hB
  obtain ⟨w1, hw1⟩ : ∃ w1, w1 = w.alloc (.cells (rfV x t).toArray 54) := ⟨_, rfl⟩
  have hB1 : Below w.heap.size w w1 := by rw [hw1]; exact (Below.refl _ _).alloc (Nat.le_refl _) _
  have HX1 : Hid (Bx (fun b => b = w.heap.size) w1 w.heap.size (rfV x t)) := Lib.hid (by rw [hw1]; exact Bx.alloc w (rfV x t).toArray 54 (X := w.heap.size) (S := fun b => b = w.heap.size) (by simp) (by simp))
  have HR1 := Lib.hid (goesRf.after hR hB1); clear hR
  have HB1 := Lib.hid hB1; clear hB1
  have HW := Lib.hid hw1; clear hw1
  have hlx := HX1.out.lt
  have HRES : Hid (writeL 110 x = num4W x.needed) := Lib.hid rfl
  have kf := HX1.out.c 5 _ rfl
  have hwr : IntKind.u64.wrap (x.needed % 4294967296) = x.needed % 4294967296 := by
    simp [IntKind.wrap, IntKind.bits, IntKind.signed]
    omega
  go_enter Tryz.func16, Tryz.ntmps16
  go_upto_region 1 with fail
  rw [show w.alloc (.cells (rfV x t).toArray 54) = w1 from HW.out.symm]
  go_wp2_with fail
  refine (rput_any (x.needed % 4294967296) 4 _ (by decide) (by decide) (by omega) (by omega)).mono ?_
  rintro e w2 ⟨A, n, c, rfl, ho, hb⟩
  have HO := Lib.hid ho; have HB2 := Lib.hid hb; clear ho hb
  clear HB
  go_wp2_with fail
  go_ret2
  rw [HRES.out]
  exact ⟨A, n, c, rfl, (show Sl _ w2 A n c (enc 4 _) from HO.out.sl.mono (fun b hb _ => by have := HB1.out.size; omega)), Below.trans HB1.out (HB2.out.mono HB1.out.size)⟩

set_option maxHeartbeats 4000000 in
set_option maxRecDepth 100000 in
theorem rwr_f {x : Rf} {t : Tfs} {w : World} (hR : RfR (fun b => b < w.heap.size) w x t) (hB : RfB x) :
    Calls Tryz.prog 16 #[.agg (rfV x t).toArray, .int .u8 102] w fun e w' => WrP w (writeL 102 x) e w' := by
  have HB := Lib.hid hB; clear hB
  obtain ⟨w1, hw1⟩ : ∃ w1, w1 = w.alloc (.cells (rfV x t).toArray 54) := ⟨_, rfl⟩
  have hB1 : Below w.heap.size w w1 := by rw [hw1]; exact (Below.refl _ _).alloc (Nat.le_refl _) _
  have HX1 : Hid (Bx (fun b => b = w.heap.size) w1 w.heap.size (rfV x t)) := Lib.hid (by rw [hw1]; exact Bx.alloc w (rfV x t).toArray 54 (X := w.heap.size) (S := fun b => b = w.heap.size) (by simp) (by simp))
  have HR1 := Lib.hid (goesRf.after hR hB1); clear hR
  have HB1 := Lib.hid hB1; clear hB1
  have HW := Lib.hid hw1; clear hw1
  have hlx := HX1.out.lt
  have HRES : Hid (writeL 102 x = num4W x.failures) := Lib.hid rfl
  have kf := HX1.out.c 6 _ rfl
  have hwr : IntKind.u64.wrap (x.failures % 4294967296) = x.failures % 4294967296 := by
    simp [IntKind.wrap, IntKind.bits, IntKind.signed]
    omega
  go_enter Tryz.func16, Tryz.ntmps16
  go_upto_region 1 with fail
  rw [show w.alloc (.cells (rfV x t).toArray 54) = w1 from HW.out.symm]
  go_wp2_with fail
  refine (rput_any (x.failures % 4294967296) 4 _ (by decide) (by decide) (by omega) (by omega)).mono ?_
  rintro e w2 ⟨A, n, c, rfl, ho, hb⟩
  have HO := Lib.hid ho; have HB2 := Lib.hid hb; clear ho hb
  clear HB
  go_wp2_with fail
  go_ret2
  rw [HRES.out]
  exact ⟨A, n, c, rfl, (show Sl _ w2 A n c (enc 4 _) from HO.out.sl.mono (fun b hb _ => by have := HB1.out.size; omega)), Below.trans HB1.out (HB2.out.mono HB1.out.size)⟩

set_option maxHeartbeats 4000000 in
set_option maxRecDepth 100000 in
theorem rwr_d {x : Rf} {t : Tfs} {w : World} (hR : RfR (fun b => b < w.heap.size) w x t) (hB : RfB x) :
    Calls Tryz.prog 16 #[.agg (rfV x t).toArray, .int .u8 100] w fun e w' => WrP w (writeL 100 x) e w' := by
  have HB := Lib.hid hB; clear hB
  obtain ⟨w1, hw1⟩ : ∃ w1, w1 = w.alloc (.cells (rfV x t).toArray 54) := ⟨_, rfl⟩
  have hB1 : Below w.heap.size w w1 := by rw [hw1]; exact (Below.refl _ _).alloc (Nat.le_refl _) _
  have HX1 : Hid (Bx (fun b => b = w.heap.size) w1 w.heap.size (rfV x t)) := Lib.hid (by rw [hw1]; exact Bx.alloc w (rfV x t).toArray 54 (X := w.heap.size) (S := fun b => b = w.heap.size) (by simp) (by simp))
  have HR1 := Lib.hid (goesRf.after hR hB1); clear hR
  have HB1 := Lib.hid hB1; clear hB1
  have HW := Lib.hid hw1; clear hw1
  have hlx := HX1.out.lt
  have HRES : Hid (writeL 100 x = .ok (enc 1 x.data)) := Lib.hid rfl
  have kf := HX1.out.c 7 _ rfl
  go_enter Tryz.func16, Tryz.ntmps16
  go_upto_region 1 with fail
  rw [show w.alloc (.cells (rfV x t).toArray 54) = w1 from HW.out.symm]
  have hxl : x.data < 256 := HB.out.data
  have e : bv (enc 1 x.data) = [.int .u8 ((x.data : Nat) : Int)] := by
    simp [bv, enc, encAt]
    omega
  have HE := Lib.hid e; clear e
  go_wp2_with fail
  go_ret2
  rw [HRES.out]
  exact ⟨_, _, _, rfl, (sl_lit w1 _ 1 (enc 1 x.data) (by rw [HE.out]) (by simp [enc]) (by decide) rfl).mono (fun b hb _ => by have := HB1.out.size; omega), Below.trans HB1.out (show Below w.heap.size w1 _ from (Below.refl _ _).alloc HB1.out.size _)⟩

set_option maxHeartbeats 4000000 in
set_option maxRecDepth 100000 in
theorem rwr_w {x : Rf} {t : Tfs} {w : World} (hR : RfR (fun b => b < w.heap.size) w x t) (hB : RfB x) :
    Calls Tryz.prog 16 #[.agg (rfV x t).toArray, .int .u8 119] w fun e w' => WrP w (writeL 119 x) e w' := by
  have HB := Lib.hid hB; clear hB
  obtain ⟨w1, hw1⟩ : ∃ w1, w1 = w.alloc (.cells (rfV x t).toArray 54) := ⟨_, rfl⟩
  have hB1 : Below w.heap.size w w1 := by rw [hw1]; exact (Below.refl _ _).alloc (Nat.le_refl _) _
  have HX1 : Hid (Bx (fun b => b = w.heap.size) w1 w.heap.size (rfV x t)) := Lib.hid (by rw [hw1]; exact Bx.alloc w (rfV x t).toArray 54 (X := w.heap.size) (S := fun b => b = w.heap.size) (by simp) (by simp))
  have HR1 := Lib.hid (goesRf.after hR hB1); clear hR
  have HB1 := Lib.hid hB1; clear hB1
  have HW := Lib.hid hw1; clear hw1
  have hlx := HX1.out.lt
  have HRES : Hid (writeL 119 x = text x.write) := Lib.hid rfl
  have kf := HX1.out.c 8 _ rfl
  go_enter Tryz.func16, Tryz.ntmps16
  go_upto_region 1 with fail
  rw [show w.alloc (.cells (rfV x t).toArray 54) = w1 from HW.out.symm]
  go_wp2_with fail
  refine (rtext_any x.write _ HB.out.write (text x.write) rfl).mono ?_
  rintro e w2 ⟨A, n, c, rfl, ho, hb⟩
  have HO := Lib.hid ho; have HB2 := Lib.hid hb; clear ho hb
  clear HB
  go_wp2_with fail
  go_ret2
  rw [HRES.out]
  exact ⟨A, n, c, rfl, HO.out.sl.mono (fun b hb _ => by have := HB1.out.size; omega), Below.trans HB1.out (HB2.out.mono HB1.out.size)⟩

set_option maxHeartbeats 4000000 in
set_option maxRecDepth 100000 in
theorem rwr_s {x : Rf} {t : Tfs} {w : World} (hR : RfR (fun b => b < w.heap.size) w x t) (hB : RfB x) :
    Calls Tryz.prog 16 #[.agg (rfV x t).toArray, .int .u8 115] w fun e w' => WrP w (writeL 115 x) e w' := by
  have HB := Lib.hid hB; clear hB
  obtain ⟨w1, hw1⟩ : ∃ w1, w1 = w.alloc (.cells (rfV x t).toArray 54) := ⟨_, rfl⟩
  have hB1 : Below w.heap.size w w1 := by rw [hw1]; exact (Below.refl _ _).alloc (Nat.le_refl _) _
  have HX1 : Hid (Bx (fun b => b = w.heap.size) w1 w.heap.size (rfV x t)) := Lib.hid (by rw [hw1]; exact Bx.alloc w (rfV x t).toArray 54 (X := w.heap.size) (S := fun b => b = w.heap.size) (by simp) (by simp))
  have HR1 := Lib.hid (goesRf.after hR hB1); clear hR
  have HB1 := Lib.hid hB1; clear hB1
  have HW := Lib.hid hw1; clear hw1
  have hlx := HX1.out.lt
  have HRES : Hid (writeL 115 x = text x.space) := Lib.hid rfl
  have kf := HX1.out.c 9 _ rfl
  go_enter Tryz.func16, Tryz.ntmps16
  go_upto_region 1 with fail
  rw [show w.alloc (.cells (rfV x t).toArray 54) = w1 from HW.out.symm]
  go_wp2_with fail
  refine (rtext_any x.space _ HB.out.space (text x.space) rfl).mono ?_
  rintro e w2 ⟨A, n, c, rfl, ho, hb⟩
  have HO := Lib.hid ho; have HB2 := Lib.hid hb; clear ho hb
  clear HB
  go_wp2_with fail
  go_ret2
  rw [HRES.out]
  exact ⟨A, n, c, rfl, HO.out.sl.mono (fun b hb _ => by have := HB1.out.size; omega), Below.trans HB1.out (HB2.out.mono HB1.out.size)⟩

set_option maxHeartbeats 4000000 in
set_option maxRecDepth 100000 in
theorem rwr_e {x : Rf} {t : Tfs} {w : World} (hR : RfR (fun b => b < w.heap.size) w x t) (hB : RfB x) :
    Calls Tryz.prog 16 #[.agg (rfV x t).toArray, .int .u8 101] w fun e w' => WrP w (writeL 101 x) e w' := by
  have HB := Lib.hid hB; clear hB
  obtain ⟨w1, hw1⟩ : ∃ w1, w1 = w.alloc (.cells (rfV x t).toArray 54) := ⟨_, rfl⟩
  have hB1 : Below w.heap.size w w1 := by rw [hw1]; exact (Below.refl _ _).alloc (Nat.le_refl _) _
  have HX1 : Hid (Bx (fun b => b = w.heap.size) w1 w.heap.size (rfV x t)) := Lib.hid (by rw [hw1]; exact Bx.alloc w (rfV x t).toArray 54 (X := w.heap.size) (S := fun b => b = w.heap.size) (by simp) (by simp))
  have HR1 := Lib.hid (goesRf.after hR hB1); clear hR
  have HB1 := Lib.hid hB1; clear hB1
  have HW := Lib.hid hw1; clear hw1
  have hlx := HX1.out.lt
  have HRES : Hid (writeL 101 x = text x.name) := Lib.hid rfl
  have kf := HX1.out.c 10 _ rfl
  go_enter Tryz.func16, Tryz.ntmps16
  go_upto_region 1 with fail
  rw [show w.alloc (.cells (rfV x t).toArray 54) = w1 from HW.out.symm]
  go_wp2_with fail
  refine (rtext_any x.name _ HB.out.name (text x.name) rfl).mono ?_
  rintro e w2 ⟨A, n, c, rfl, ho, hb⟩
  have HO := Lib.hid ho; have HB2 := Lib.hid hb; clear ho hb
  clear HB
  go_wp2_with fail
  go_ret2
  rw [HRES.out]
  exact ⟨A, n, c, rfl, HO.out.sl.mono (fun b hb _ => by have := HB1.out.size; omega), Below.trans HB1.out (HB2.out.mono HB1.out.size)⟩

set_option maxHeartbeats 4000000 in
set_option maxRecDepth 100000 in
theorem rwr_a {x : Rf} {t : Tfs} {w : World} (hR : RfR (fun b => b < w.heap.size) w x t) (hB : RfB x) :
    Calls Tryz.prog 16 #[.agg (rfV x t).toArray, .int .u8 97] w fun e w' => WrP w (writeL 97 x) e w' := by
  have HB := Lib.hid hB; clear hB
  obtain ⟨w1, hw1⟩ : ∃ w1, w1 = w.alloc (.cells (rfV x t).toArray 54) := ⟨_, rfl⟩
  have hB1 : Below w.heap.size w w1 := by rw [hw1]; exact (Below.refl _ _).alloc (Nat.le_refl _) _
  have HX1 : Hid (Bx (fun b => b = w.heap.size) w1 w.heap.size (rfV x t)) := Lib.hid (by rw [hw1]; exact Bx.alloc w (rfV x t).toArray 54 (X := w.heap.size) (S := fun b => b = w.heap.size) (by simp) (by simp))
  have HR1 := Lib.hid (goesRf.after hR hB1); clear hR
  have HB1 := Lib.hid hB1; clear hB1
  have HW := Lib.hid hw1; clear hw1
  have hlx := HX1.out.lt
  have HRES : Hid (writeL 97 x = texts x.args) := Lib.hid rfl
  have kf := HX1.out.c 11 _ rfl
  go_enter Tryz.func16, Tryz.ntmps16
  go_upto_region 1 with fail
  rw [show w.alloc (.cells (rfV x t).toArray 54) = w1 from HW.out.symm]
  go_wp2_with fail
  refine (rput0_any (M := 65537) HR1.out.fa (item0_len _) (Nat.le_refl _) (fun h => by omega) (texts x.args) (put_texts _)).mono ?_
  rintro e w2 ⟨A, n, c, rfl, ho, hb⟩
  have HO := Lib.hid ho; have HB2 := Lib.hid hb; clear ho hb
  clear HB
  go_wp2_with fail
  go_ret2
  rw [HRES.out]
  exact ⟨A, n, c, rfl, HO.out.sl.mono (fun b hb _ => by have := HB1.out.size; omega), Below.trans HB1.out (HB2.out.mono HB1.out.size)⟩
end Go.Proofs.Sb

/- Walks over signalboxref09.write. Conditions: lengths up to 2^47. (written by gen_ryh.py) -/
namespace Go.Proofs.Sb
open Go.RowKit _root_.Sb

set_option maxHeartbeats 4000000 in
set_option maxRecDepth 100000 in
theorem rwr_i {x : Rf} {t : Tfs} {w : World} (hR : RfR (fun b => b < w.heap.size) w x t) (hB : RfB x) :
    Calls Tryz.prog 16 #[.agg (rfV x t).toArray, .int .u8 105] w fun e w' => WrP w (writeL 105 x) e w' := by
  have HB := Lib.hid hB; clear hB
  obtain ⟨w1, hw1⟩ : ∃ w1, w1 = w.alloc (.cells (rfV x t).toArray 54) := ⟨_, rfl⟩
  have hB1 : Below w.heap.size w w1 := by rw [hw1]; exact (Below.refl _ _).alloc (Nat.le_refl _) _
  have HX1 : Hid (Bx (fun b => b = w.heap.size) w1 w.heap.size (rfV x t)) := Lib.hid (by rw [hw1]; exact Bx.alloc w (rfV x t).toArray 54 (X := w.heap.size) (S := fun b => b = w.heap.size) (by simp) (by simp))
  have HR1 := Lib.hid (goesRf.after hR hB1); clear hR
  have HB1 := Lib.hid hB1; clear hB1
  have HW := Lib.hid hw1; clear hw1
  have hlx := HX1.out.lt
  have HRES : Hid (writeL 105 x = text x.ident) := Lib.hid rfl
  have kf := HX1.out.c 12 _ rfl
  go_enter Tryz.func16, Tryz.ntmps16
  go_upto_region 1 with fail
  rw [show w.alloc (.cells (rfV x t).toArray 54) = w1 from HW.out.symm]
  go_wp2_with fail
  refine (rtext_any x.ident _ HB.out.ident (text x.ident) rfl).mono ?_
  rintro e w2 ⟨A, n, c, rfl, ho, hb⟩
  have HO := Lib.hid ho; have HB2 := Lib.hid hb; clear ho hb
  clear HB
  go_wp2_with fail
  go_ret2
  rw [HRES.out]
  exact ⟨A, n, c, rfl, HO.out.sl.mono (fun b hb _ => by have := HB1.out.size; omega), Below.trans HB1.out (HB2.out.mono HB1.out.size)⟩

set_option maxHeartbeats 4000000 in
set_option maxRecDepth 100000 in
theorem rwr_m {x : Rf} {t : Tfs} {w : World} (hR : RfR (fun b => b < w.heap.size) w x t) (hB : RfB x) :
    Calls Tryz.prog 16 #[.agg (rfV x t).toArray, .int .u8 109] w fun e w' => WrP w (writeL 109 x) e w' := by
  have HB := Lib.hid hB; clear hB
  obtain ⟨w1, hw1⟩ : ∃ w1, w1 = w.alloc (.cells (rfV x t).toArray 54) := ⟨_, rfl⟩
  have hB1 : Below w.heap.size w w1 := by rw [hw1]; exact (Below.refl _ _).alloc (Nat.le_refl _) _
  have HX1 : Hid (Bx (fun b => b = w.heap.size) w1 w.heap.size (rfV x t)) := Lib.hid (by rw [hw1]; exact Bx.alloc w (rfV x t).toArray 54 (X := w.heap.size) (S := fun b => b = w.heap.size) (by simp) (by simp))
  have HR1 := Lib.hid (goesRf.after hR hB1); clear hR
  have HB1 := Lib.hid hB1; clear hB1
  have HW := Lib.hid hw1; clear hw1
  have hlx := HX1.out.lt
  have HRES : Hid (writeL 109 x = putL multiW x.support) := Lib.hid rfl
  have kf := HX1.out.c 13 _ rfl
  obtain ⟨M, hM1, hM2, hM3⟩ := HB.out.sup
  go_enter Tryz.func16, Tryz.ntmps16
  go_upto_region 1 with fail
  rw [show w.alloc (.cells (rfV x t).toArray 54) = w1 from HW.out.symm]
  go_wp2_with fail
  refine (rput2_any (M := M) HR1.out.su (fun y hy => by obtain ⟨s, hs, rfl⟩ := List.mem_map.1 hy; exact HB.out.nsup s hs) (item2_len hM1) hM2 (fun _ => by rw [List.length_map]; omega) (putL multiW x.support) (put_multis _)).mono ?_
  rintro e w2 ⟨A, n, c, rfl, ho, hb⟩
  have HO := Lib.hid ho; have HB2 := Lib.hid hb; clear ho hb
  clear HB
  go_wp2_with fail
  go_ret2
  rw [HRES.out]
  exact ⟨A, n, c, rfl, HO.out.sl.mono (fun b hb _ => by have := HB1.out.size; omega), Below.trans HB1.out (HB2.out.mono HB1.out.size)⟩

set_option maxHeartbeats 4000000 in
set_option maxRecDepth 100000 in
theorem rwr_v {x : Rf} {t : Tfs} {w : World} (hR : RfR (fun b => b < w.heap.size) w x t) (hB : RfB x) :
    Calls Tryz.prog 16 #[.agg (rfV x t).toArray, .int .u8 118] w fun e w' => WrP w (writeL 118 x) e w' := by
  have HB := Lib.hid hB; clear hB
  obtain ⟨w1, hw1⟩ : ∃ w1, w1 = w.alloc (.cells (rfV x t).toArray 54) := ⟨_, rfl⟩
  have hB1 : Below w.heap.size w w1 := by rw [hw1]; exact (Below.refl _ _).alloc (Nat.le_refl _) _
  have HX1 : Hid (Bx (fun b => b = w.heap.size) w1 w.heap.size (rfV x t)) := Lib.hid (by rw [hw1]; exact Bx.alloc w (rfV x t).toArray 54 (X := w.heap.size) (S := fun b => b = w.heap.size) (by simp) (by simp))
  have HR1 := Lib.hid (goesRf.after hR hB1); clear hR
  have HB1 := Lib.hid hB1; clear hB1
  have HW := Lib.hid hw1; clear hw1
  have hlx := HX1.out.lt
  have HRES : Hid (writeL 118 x = value x.token) := Lib.hid rfl
  go_enter Tryz.func16, Tryz.ntmps16
  go_upto_region 1 with fail
  rw [show w.alloc (.cells (rfV x t).toArray 54) = w1 from HW.out.symm]
  go_wp2_with (first | (refine wpList_load_mid (by rfl) 48 _ (by rfl) w.heap.size 14 (by rfl) [.int .i64 x.token.kind, .string (str x.token.bytes)] _ (HX1.out.range_at (o := 14) (us := [.int .i64 x.token.kind, .string (str x.token.bytes)]) rfl) Tryz.underlying48 rfl (by kernel_rfl) ?_))
  refine (rvalue_any x.token _ (by have := HB.out.token; omega) (value x.token) rfl).mono ?_
  rintro e w2 ⟨A, n, c, rfl, ho, hb⟩
  have HO := Lib.hid ho; have HB2 := Lib.hid hb; clear ho hb
  clear HB
  go_wp2_with fail
  go_ret2
  rw [HRES.out]
  exact ⟨A, n, c, rfl, HO.out.sl.mono (fun b hb _ => by have := HB1.out.size; omega), Below.trans HB1.out (HB2.out.mono HB1.out.size)⟩

set_option maxHeartbeats 4000000 in
set_option maxRecDepth 100000 in
theorem rwr_E {x : Rf} {t : Tfs} {w : World} (hR : RfR (fun b => b < w.heap.size) w x t) (hB : RfB x) :
    Calls Tryz.prog 16 #[.agg (rfV x t).toArray, .int .u8 69] w fun e w' => WrP w (writeL 69 x) e w' := by
  have HB := Lib.hid hB; clear hB
  obtain ⟨w1, hw1⟩ : ∃ w1, w1 = w.alloc (.cells (rfV x t).toArray 54) := ⟨_, rfl⟩
  have hB1 : Below w.heap.size w w1 := by rw [hw1]; exact (Below.refl _ _).alloc (Nat.le_refl _) _
  have HX1 : Hid (Bx (fun b => b = w.heap.size) w1 w.heap.size (rfV x t)) := Lib.hid (by rw [hw1]; exact Bx.alloc w (rfV x t).toArray 54 (X := w.heap.size) (S := fun b => b = w.heap.size) (by simp) (by simp))
  have HR1 := Lib.hid (goesRf.after hR hB1); clear hR
  have HB1 := Lib.hid hB1; clear hB1
  have HW := Lib.hid hw1; clear hw1
  have hlx := HX1.out.lt
  have HRES : Hid (writeL 69 x = text x.event) := Lib.hid rfl
  have kf := HX1.out.c 16 _ rfl
  go_enter Tryz.func16, Tryz.ntmps16
  go_upto_region 1 with fail
  rw [show w.alloc (.cells (rfV x t).toArray 54) = w1 from HW.out.symm]
  go_wp2_with fail
  refine (rtext_any x.event _ HB.out.event (text x.event) rfl).mono ?_
  rintro e w2 ⟨A, n, c, rfl, ho, hb⟩
  have HO := Lib.hid ho; have HB2 := Lib.hid hb; clear ho hb
  clear HB
  go_wp2_with fail
  go_ret2
  rw [HRES.out]
  exact ⟨A, n, c, rfl, HO.out.sl.mono (fun b hb _ => by have := HB1.out.size; omega), Below.trans HB1.out (HB2.out.mono HB1.out.size)⟩

set_option maxHeartbeats 4000000 in
set_option maxRecDepth 100000 in
theorem rwr_H {x : Rf} {t : Tfs} {w : World} (hR : RfR (fun b => b < w.heap.size) w x t) (hB : RfB x) :
    Calls Tryz.prog 16 #[.agg (rfV x t).toArray, .int .u8 72] w fun e w' => WrP w (writeL 72 x) e w' := by
  have HB := Lib.hid hB; clear hB
  obtain ⟨w1, hw1⟩ : ∃ w1, w1 = w.alloc (.cells (rfV x t).toArray 54) := ⟨_, rfl⟩
  have hB1 : Below w.heap.size w w1 := by rw [hw1]; exact (Below.refl _ _).alloc (Nat.le_refl _) _
  have HX1 : Hid (Bx (fun b => b = w.heap.size) w1 w.heap.size (rfV x t)) := Lib.hid (by rw [hw1]; exact Bx.alloc w (rfV x t).toArray 54 (X := w.heap.size) (S := fun b => b = w.heap.size) (by simp) (by simp))
  have HR1 := Lib.hid (goesRf.after hR hB1); clear hR
  have HB1 := Lib.hid hB1; clear hB1
  have HW := Lib.hid hw1; clear hw1
  have hlx := HX1.out.lt
  have HRES : Hid (writeL 72 x = text x.what) := Lib.hid rfl
  have kf := HX1.out.c 17 _ rfl
  go_enter Tryz.func16, Tryz.ntmps16
  go_upto_region 1 with fail
  rw [show w.alloc (.cells (rfV x t).toArray 54) = w1 from HW.out.symm]
  go_wp2_with fail
  refine (rtext_any x.what _ HB.out.what (text x.what) rfl).mono ?_
  rintro e w2 ⟨A, n, c, rfl, ho, hb⟩
  have HO := Lib.hid ho; have HB2 := Lib.hid hb; clear ho hb
  clear HB
  go_wp2_with fail
  go_ret2
  rw [HRES.out]
  exact ⟨A, n, c, rfl, HO.out.sl.mono (fun b hb _ => by have := HB1.out.size; omega), Below.trans HB1.out (HB2.out.mono HB1.out.size)⟩

set_option maxHeartbeats 4000000 in
set_option maxRecDepth 100000 in
theorem rwr_A {x : Rf} {t : Tfs} {w : World} (hR : RfR (fun b => b < w.heap.size) w x t) (hB : RfB x) :
    Calls Tryz.prog 16 #[.agg (rfV x t).toArray, .int .u8 65] w fun e w' => WrP w (writeL 65 x) e w' := by
  have HB := Lib.hid hB; clear hB
  obtain ⟨w1, hw1⟩ : ∃ w1, w1 = w.alloc (.cells (rfV x t).toArray 54) := ⟨_, rfl⟩
  have hB1 : Below w.heap.size w w1 := by rw [hw1]; exact (Below.refl _ _).alloc (Nat.le_refl _) _
  have HX1 : Hid (Bx (fun b => b = w.heap.size) w1 w.heap.size (rfV x t)) := Lib.hid (by rw [hw1]; exact Bx.alloc w (rfV x t).toArray 54 (X := w.heap.size) (S := fun b => b = w.heap.size) (by simp) (by simp))
  have HR1 := Lib.hid (goesRf.after hR hB1); clear hR
  have HB1 := Lib.hid hB1; clear hB1
  have HW := Lib.hid hw1; clear hw1
  have hlx := HX1.out.lt
  have HRES : Hid (writeL 65 x = inet x.addr) := Lib.hid rfl
  go_enter Tryz.func16, Tryz.ntmps16
  go_upto_region 1 with fail
  rw [show w.alloc (.cells (rfV x t).toArray 54) = w1 from HW.out.symm]
  go_wp2_with (first | (refine wpList_load_mid (by rfl) 50 _ (by rfl) w.heap.size 18 (by rfl) [.string (str x.addr.addr), .int .u32 ((x.addr.port : Nat) : Int)] _ (HX1.out.range_at (o := 18) (us := [.string (str x.addr.addr), .int .u32 ((x.addr.port : Nat) : Int)]) rfl) Tryz.underlying50 rfl (by kernel_rfl) ?_))
  refine (rinet_any (ad := x.addr.addr) (port := x.addr.port) HB.out.port HB.out.addr (inet x.addr) rfl).mono ?_
  rintro e w2 ⟨A, n, c, rfl, ho, hb⟩
  have HO := Lib.hid ho; have HB2 := Lib.hid hb; clear ho hb
  clear HB
  go_wp2_with fail
  go_ret2
  rw [HRES.out]
  exact ⟨A, n, c, rfl, HO.out.sl.mono (fun b hb _ => by have := HB1.out.size; omega), Below.trans HB1.out (HB2.out.mono HB1.out.size)⟩

set_option maxHeartbeats 4000000 in
set_option maxRecDepth 100000 in
theorem rwr_R {x : Rf} {t : Tfs} {w : World} (hR : RfR (fun b => b < w.heap.size) w x t) (hB : RfB x) :
    Calls Tryz.prog 16 #[.agg (rfV x t).toArray, .int .u8 82] w fun e w' => WrP w (writeL 82 x) e w' := by
  have HB := Lib.hid hB; clear hB
  obtain ⟨w1, hw1⟩ : ∃ w1, w1 = w.alloc (.cells (rfV x t).toArray 54) := ⟨_, rfl⟩
  have hB1 : Below w.heap.size w w1 := by rw [hw1]; exact (Below.refl _ _).alloc (Nat.le_refl _) _
  have HX1 : Hid (Bx (fun b => b = w.heap.size) w1 w.heap.size (rfV x t)) := Lib.hid (by rw [hw1]; exact Bx.alloc w (rfV x t).toArray 54 (X := w.heap.size) (S := fun b => b = w.heap.size) (by simp) (by simp))
  have HR1 := Lib.hid (goesRf.after hR hB1); clear hR
  have HB1 := Lib.hid hB1; clear hB1
  have HW := Lib.hid hw1; clear hw1
  have hlx := HX1.out.lt
  have HRES : Hid (writeL 82 x = .ok x.rest) := Lib.hid rfl
  have kf := HX1.out.c 26 _ rfl
  go_enter Tryz.func16, Tryz.ntmps16
  go_upto_region 1 with fail
  rw [show w.alloc (.cells (rfV x t).toArray 54) = w1 from HW.out.symm]
  obtain ⟨c2, W, hrun, hO, hbW⟩ := conv_own w1 x.rest (by have := HB.out.rest; omega)
  have HO := Lib.hid hO; have HBW := Lib.hid hbW; clear hO hbW
  go_wp2_with fail
  go_ret2
  rw [HRES.out]
  exact ⟨_, _, _, rfl, HO.out.sl.mono (fun b hb _ => by have := HB1.out.size; omega), Below.trans HB1.out (HBW.out.mono HB1.out.size)⟩

set_option maxHeartbeats 4000000 in
set_option maxRecDepth 100000 in
theorem rwr_W {x : Rf} {t : Tfs} {w : World} (hR : RfR (fun b => b < w.heap.size) w x t) (hB : RfB x) :
    Calls Tryz.prog 16 #[.agg (rfV x t).toArray, .int .u8 87] w fun e w' => WrP w (writeL 87 x) e w' := by
  have HB := Lib.hid hB; clear hB
  obtain ⟨w1, hw1⟩ : ∃ w1, w1 = w.alloc (.cells (rfV x t).toArray 54) := ⟨_, rfl⟩
  have hB1 : Below w.heap.size w w1 := by rw [hw1]; exact (Below.refl _ _).alloc (Nat.le_refl _) _
  have HX1 : Hid (Bx (fun b => b = w.heap.size) w1 w.heap.size (rfV x t)) := Lib.hid (by rw [hw1]; exact Bx.alloc w (rfV x t).toArray 54 (X := w.heap.size) (S := fun b => b = w.heap.size) (by simp) (by simp))
  have HR1 := Lib.hid (goesRf.after hR hB1); clear hR
  have HB1 := Lib.hid hB1; clear hB1
  have HW := Lib.hid hw1; clear hw1
  have hlx := HX1.out.lt
  have HRES : Hid (writeL 87 x = text x.change.what) := Lib.hid rfl
  have kf := HX1.out.c 20 _ rfl
  go_enter Tryz.func16, Tryz.ntmps16
  go_upto_region 1 with fail
  rw [show w.alloc (.cells (rfV x t).toArray 54) = w1 from HW.out.symm]
  go_wp2_with fail
  refine (rtext_any x.change.what _ HB.out.chg.what (text x.change.what) rfl).mono ?_
  rintro e w2 ⟨A, n, c, rfl, ho, hb⟩
  have HO := Lib.hid ho; have HB2 := Lib.hid hb; clear ho hb
  clear HB
  go_wp2_with fail
  go_ret2
  rw [HRES.out]
  exact ⟨A, n, c, rfl, HO.out.sl.mono (fun b hb _ => by have := HB1.out.size; omega), Below.trans HB1.out (HB2.out.mono HB1.out.size)⟩

set_option maxHeartbeats 4000000 in
set_option maxRecDepth 100000 in
theorem rwr_T {x : Rf} {t : Tfs} {w : World} (hR : RfR (fun b => b < w.heap.size) w x t) (hB : RfB x) :
    Calls Tryz.prog 16 #[.agg (rfV x t).toArray, .int .u8 84] w fun e w' => WrP w (writeL 84 x) e w' := by
  have HB := Lib.hid hB; clear hB
  obtain ⟨w1, hw1⟩ : ∃ w1, w1 = w.alloc (.cells (rfV x t).toArray 54) := ⟨_, rfl⟩
  have hB1 : Below w.heap.size w w1 := by rw [hw1]; exact (Below.refl _ _).alloc (Nat.le_refl _) _
  have HX1 : Hid (Bx (fun b => b = w.heap.size) w1 w.heap.size (rfV x t)) := Lib.hid (by rw [hw1]; exact Bx.alloc w (rfV x t).toArray 54 (X := w.heap.size) (S := fun b => b = w.heap.size) (by simp) (by simp))
  have HR1 := Lib.hid (goesRf.after hR hB1); clear hR
  have HB1 := Lib.hid hB1; clear hB1
  have HW := Lib.hid hw1; clear hw1
  have hlx := HX1.out.lt
  have HRES : Hid (writeL 84 x = text x.change.target) := Lib.hid rfl
  have kf := HX1.out.c 21 _ rfl
  go_enter Tryz.func16, Tryz.ntmps16
  go_upto_region 1 with fail
  rw [show w.alloc (.cells (rfV x t).toArray 54) = w1 from HW.out.symm]
  go_wp2_with fail
  refine (rtext_any x.change.target _ HB.out.chg.target (text x.change.target) rfl).mono ?_
  rintro e w2 ⟨A, n, c, rfl, ho, hb⟩
  have HO := Lib.hid ho; have HB2 := Lib.hid hb; clear ho hb
  clear HB
  go_wp2_with fail
  go_ret2
  rw [HRES.out]
  exact ⟨A, n, c, rfl, HO.out.sl.mono (fun b hb _ => by have := HB1.out.size; omega), Below.trans HB1.out (HB2.out.mono HB1.out.size)⟩

set_option maxHeartbeats 4000000 in
set_option maxRecDepth 100000 in
theorem rwr_S {x : Rf} {t : Tfs} {w : World} (hR : RfR (fun b => b < w.heap.size) w x t) (hB : RfB x) :
    Calls Tryz.prog 16 #[.agg (rfV x t).toArray, .int .u8 83] w fun e w' => WrP w (writeL 83 x) e w' := by
  have HB := Lib.hid hB; clear hB
  obtain ⟨w1, hw1⟩ : ∃ w1, w1 = w.alloc (.cells (rfV x t).toArray 54) := ⟨_, rfl⟩
  have hB1 : Below w.heap.size w w1 := by rw [hw1]; exact (Below.refl _ _).alloc (Nat.le_refl _) _
  have HX1 : Hid (Bx (fun b => b = w.heap.size) w1 w.heap.size (rfV x t)) := Lib.hid (by rw [hw1]; exact Bx.alloc w (rfV x t).toArray 54 (X := w.heap.size) (S := fun b => b = w.heap.size) (by simp) (by simp))
  have HR1 := Lib.hid (goesRf.after hR hB1); clear hR
  have HB1 := Lib.hid hB1; clear hB1
  have HW := Lib.hid hw1; clear hw1
  have hlx := HX1.out.lt
  have HRES : Hid (writeL 83 x = text x.change.space) := Lib.hid rfl
  have kf := HX1.out.c 22 _ rfl
  go_enter Tryz.func16, Tryz.ntmps16
  go_upto_region 1 with fail
  rw [show w.alloc (.cells (rfV x t).toArray 54) = w1 from HW.out.symm]
  go_wp2_with fail
  refine (rtext_any x.change.space _ HB.out.chg.space (text x.change.space) rfl).mono ?_
  rintro e w2 ⟨A, n, c, rfl, ho, hb⟩
  have HO := Lib.hid ho; have HB2 := Lib.hid hb; clear ho hb
  clear HB
  go_wp2_with fail
  go_ret2
  rw [HRES.out]
  exact ⟨A, n, c, rfl, HO.out.sl.mono (fun b hb _ => by have := HB1.out.size; omega), Below.trans HB1.out (HB2.out.mono HB1.out.size)⟩

set_option maxHeartbeats 4000000 in
set_option maxRecDepth 100000 in
theorem rwr_N {x : Rf} {t : Tfs} {w : World} (hR : RfR (fun b => b < w.heap.size) w x t) (hB : RfB x) :
    Calls Tryz.prog 16 #[.agg (rfV x t).toArray, .int .u8 78] w fun e w' => WrP w (writeL 78 x) e w' := by
  have HB := Lib.hid hB; clear hB
  obtain ⟨w1, hw1⟩ : ∃ w1, w1 = w.alloc (.cells (rfV x t).toArray 54) := ⟨_, rfl⟩
  have hB1 : Below w.heap.size w w1 := by rw [hw1]; exact (Below.refl _ _).alloc (Nat.le_refl _) _
  have HX1 : Hid (Bx (fun b => b = w.heap.size) w1 w.heap.size (rfV x t)) := Lib.hid (by rw [hw1]; exact Bx.alloc w (rfV x t).toArray 54 (X := w.heap.size) (S := fun b => b = w.heap.size) (by simp) (by simp))
  have HR1 := Lib.hid (goesRf.after hR hB1); clear hR
  have HB1 := Lib.hid hB1; clear hB1
  have HW := Lib.hid hw1; clear hw1
  have hlx := HX1.out.lt
  have HRES : Hid (writeL 78 x = text x.change.name) := Lib.hid rfl
  have kf := HX1.out.c 23 _ rfl
  go_enter Tryz.func16, Tryz.ntmps16
  go_upto_region 1 with fail
  rw [show w.alloc (.cells (rfV x t).toArray 54) = w1 from HW.out.symm]
  go_wp2_with fail
  refine (rtext_any x.change.name _ HB.out.chg.name (text x.change.name) rfl).mono ?_
  rintro e w2 ⟨A, n, c, rfl, ho, hb⟩
  have HO := Lib.hid ho; have HB2 := Lib.hid hb; clear ho hb
  clear HB
  go_wp2_with fail
  go_ret2
  rw [HRES.out]
  exact ⟨A, n, c, rfl, HO.out.sl.mono (fun b hb _ => by have := HB1.out.size; omega), Below.trans HB1.out (HB2.out.mono HB1.out.size)⟩

set_option maxHeartbeats 4000000 in
set_option maxRecDepth 100000 in
theorem rwr_G {x : Rf} {t : Tfs} {w : World} (hR : RfR (fun b => b < w.heap.size) w x t) (hB : RfB x) :
    Calls Tryz.prog 16 #[.agg (rfV x t).toArray, .int .u8 71] w fun e w' => WrP w (writeL 71 x) e w' := by
  have HB := Lib.hid hB; clear hB
  obtain ⟨w1, hw1⟩ : ∃ w1, w1 = w.alloc (.cells (rfV x t).toArray 54) := ⟨_, rfl⟩
  have hB1 : Below w.heap.size w w1 := by rw [hw1]; exact (Below.refl _ _).alloc (Nat.le_refl _) _
  have HX1 : Hid (Bx (fun b => b = w.heap.size) w1 w.heap.size (rfV x t)) := Lib.hid (by rw [hw1]; exact Bx.alloc w (rfV x t).toArray 54 (X := w.heap.size) (S := fun b => b = w.heap.size) (by simp) (by simp))
  have HR1 := Lib.hid (goesRf.after hR hB1); clear hR
  have HB1 := Lib.hid hB1; clear hB1
  have HW := Lib.hid hw1; clear hw1
  have hlx := HX1.out.lt
  have HRES : Hid (writeL 71 x = texts x.change.args) := Lib.hid rfl
  have kf := HX1.out.c 24 _ rfl
  go_enter Tryz.func16, Tryz.ntmps16
  go_upto_region 1 with fail
  rw [show w.alloc (.cells (rfV x t).toArray 54) = w1 from HW.out.symm]
  go_wp2_with fail
  refine (rput0_any (M := 65537) HR1.out.cg (item0_len _) (Nat.le_refl _) (fun h => by omega) (texts x.change.args) (put_texts _)).mono ?_
  rintro e w2 ⟨A, n, c, rfl, ho, hb⟩
  have HO := Lib.hid ho; have HB2 := Lib.hid hb; clear ho hb
  clear HB
  go_wp2_with fail
  go_ret2
  rw [HRES.out]
  exact ⟨A, n, c, rfl, HO.out.sl.mono (fun b hb _ => by have := HB1.out.size; omega), Below.trans HB1.out (HB2.out.mono HB1.out.size)⟩
end Go.Proofs.Sb
