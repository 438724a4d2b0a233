/- Walks over signalboxref09.read. Conditions: lengths up to 2^47. (written by gen_rye.py) -/
import Derived.Test.YtfeeeighafflnaaGreatRye
import Derived.Test.YtfeeeighafflnaaGreatRefb
import Derived.Test.YtfeeeighafflnaaGreatRefd
import Derived.Test.YtfeeeighafflnaaGreatRefe
set_option linter.unusedVariables false
set_option linter.unusedSimpArgs false
namespace Go.Proofs.Sb
open Go.RowKit _root_.Sb

set_option maxHeartbeats 4000000 in
set_option maxRecDepth 100000 in
theorem rrd_w {S S2 : Nat → Prop} {A : Option Addr} {m c a : Nat} {bs : B} {x : Rf} {t : Tfs} {w : World} (hs : Sl S w A m c bs) (hm : m ≤ 140737488355328) (ha : a ≤ m) (hR : RfR S2 w x t) :
    Calls Tryz.prog 19 #[.agg (rfV x t).toArray, .int .u8 119, .slice A m c, .int .i64 (a : Int)] w fun e w' => RdP S2 w bs (readL 119 x (bs.drop a)) e w' := by
  have HR := Lib.hid (goesRf.mono (S' := fun b => S2 b ∧ b < w.heap.size) hR fun b h1 h2 => ⟨h1, h2⟩); clear hR
  have hcp := hs.cap
  have hcm := hs.capMax
  have hln := Lib.hid hs.len
  have HS := Lib.hid hs; clear hs
  obtain ⟨w1, hw1⟩ : ∃ w1, w1 = (w.alloc (.cells (rfV x t).toArray 54)).alloc (.cells #[.int .u8 0, .int .u32 0, .string ⟨#[]⟩, .int .u16 0, .int .i32 0, .int .i32 0, .int .i32 0, .int .u8 0, .string ⟨#[]⟩, .string ⟨#[]⟩, .string ⟨#[]⟩, .slice none 0 0, .string ⟨#[]⟩, .slice none 0 0, .int .i64 0, .string ⟨#[]⟩, .string ⟨#[]⟩, .string ⟨#[]⟩, .string ⟨#[]⟩, .int .u32 0, .string ⟨#[]⟩, .string ⟨#[]⟩, .string ⟨#[]⟩, .string ⟨#[]⟩, .slice none 0 0, .int .u32 0, .string ⟨#[]⟩] 54) := ⟨_, rfl⟩
  have b1 : Below w.heap.size w (w.alloc (.cells (rfV x t).toArray 54)) := (Below.refl _ _).alloc (Nat.le_refl _) _
  have hz0 : (w.alloc (.cells (rfV x t).toArray 54)).heap.size = w.heap.size + 1 := World.size_alloc _ _
  have hsz : w1.heap.size = w.heap.size + 1 + 1 := by rw [hw1]; simp
  have b2 : Below (w.alloc (.cells (rfV x t).toArray 54)).heap.size (w.alloc (.cells (rfV x t).toArray 54)) w1 := by rw [hw1]; exact (Below.refl _ _).alloc (Nat.le_refl _) _
  have HB1 : Hid (Below w.heap.size w w1) := Lib.hid (seqB b1 b2)
  have HX1 : Hid (Bx (fun b => b = w.heap.size) w1 w.heap.size (rfV x t)) := Lib.hid (Bx.after (Bx.alloc w (rfV x t).toArray 54 (S := fun b => b = w.heap.size) rfl rfl) b2)
  have HY1 : Hid (Bx (fun b => b = w.heap.size + 1) w1 (w.heap.size + 1) zeroRf) := Lib.hid (by rw [hw1]; exact Bx.alloc _ #[.int .u8 0, .int .u32 0, .string ⟨#[]⟩, .int .u16 0, .int .i32 0, .int .i32 0, .int .i32 0, .int .u8 0, .string ⟨#[]⟩, .string ⟨#[]⟩, .string ⟨#[]⟩, .slice none 0 0, .string ⟨#[]⟩, .slice none 0 0, .int .i64 0, .string ⟨#[]⟩, .string ⟨#[]⟩, .string ⟨#[]⟩, .string ⟨#[]⟩, .int .u32 0, .string ⟨#[]⟩, .string ⟨#[]⟩, .string ⟨#[]⟩, .string ⟨#[]⟩, .slice none 0 0, .int .u32 0, .string ⟨#[]⟩] 54 (X := w.heap.size + 1) (S := fun b => b = w.heap.size + 1) (by simp) (by simp))
  have HW := Lib.hid hw1; have HSZ := Lib.hid hsz
  clear hw1 b1 b2 hz0 hsz
  go_enter Tryz.func19, Tryz.ntmps19
  go_upto_region 1 with fail
  rw [show ((w.alloc (.cells (rfV x t).toArray 54)).alloc (.cells #[.int .u8 0, .int .u32 0, .string ⟨#[]⟩, .int .u16 0, .int .i32 0, .int .i32 0, .int .i32 0, .int .u8 0, .string ⟨#[]⟩, .string ⟨#[]⟩, .string ⟨#[]⟩, .slice none 0 0, .string ⟨#[]⟩, .slice none 0 0, .int .i64 0, .string ⟨#[]⟩, .string ⟨#[]⟩, .string ⟨#[]⟩, .string ⟨#[]⟩, .int .u32 0, .string ⟨#[]⟩, .string ⟨#[]⟩, .string ⟨#[]⟩, .string ⟨#[]⟩, .slice none 0 0, .int .u32 0, .string ⟨#[]⟩] 54)) = w1 from HW.out.symm]
  have hlx : w.heap.size < w1.heap.size := by have := HSZ.out; omega
  have hly : w.heap.size + 1 < w1.heap.size := by have := HSZ.out; omega
  go_wp2_with fail
  refine (rgetText_any (S := S) (a := a) (HS.out.after HB1.out) hm ha _ rfl).mono ?_
  rintro e w2 ⟨q, rfl, hq, rfl⟩
  obtain ⟨w2, hw2⟩ : ∃ w2, w2 = w1 := ⟨_, rfl⟩
  have hb : Below w1.heap.size w1 w2 := by rw [hw2]; exact Below.refl _ _
  rw [← hw2]
  clear hw2
  have HQ := Lib.hid hq; clear hq
  have HB2 : Hid (Below w.heap.size w w2) := Lib.hid (Below.trans HB1.out (hb.mono (by have := HSZ.out; omega)))
  have HX2 := Lib.hid (goesBx.after HX1.out hb)
  have HY2 := Lib.hid (goesBx.after HY1.out hb)
  have hlx2 := HX2.out.lt
  have hly2 := HY2.out.lt
  clear hlx hly
  have HRE : Hid (rerr (readL 119 x (bs.drop a)) = rerr (getText (bs.drop a))) := Lib.hid (by rw [rd_119]; exact err_bind)
  obtain ⟨er, her⟩ : ∃ er, rerr (getText (bs.drop a)) = er := ⟨_, rfl⟩
  rw [her] at HRE ⊢
  clear her
  obtain ⟨v, hv⟩ : ∃ v, rval [] (getText (bs.drop a)) = v := ⟨_, rfl⟩
  rw [hv]
  have HV := Lib.hid hv; clear hv
  have kf := HX2.out.c 8 _ rfl
  have ff := HX2.out.fr 8
  go_upto_region 57 with fail
  clear kf ff
  have HX3 : Hid (Bx (fun b => b = w.heap.size) (w2.setCell ⟨w.heap.size, 8, none⟩ (.string (str v))) w.heap.size (rfV { x with write := v } t)) := Lib.hid (HX2.out.put 8 (.string (str v)) (by show 8 < 27; decide))
  have HY3 : Hid (Bx (fun b => b = w.heap.size + 1) (w2.setCell ⟨w.heap.size, 8, none⟩ (.string (str v))) (w.heap.size + 1) zeroRf) := Lib.hid (goesBx.keep HY2.out (by simp) fun b hb hl => Below.heap_setCell _ ⟨w.heap.size, 8, none⟩ _ b (by show b ≠ w.heap.size; omega))
  have HB3 : Hid (Below w.heap.size w (w2.setCell ⟨w.heap.size, 8, none⟩ (.string (str v)))) := Lib.hid (HB2.out.setCell (Nat.le_refl _) _)
  have HR3 : Hid (RfR (fun b => S2 b ∧ b < w.heap.size) (w2.setCell ⟨w.heap.size, 8, none⟩ (.string (str v))) { x with write := v } t) := Lib.hid (⟨(goesRf.after HR.out HB3.out).fa, (goesRf.after HR.out HB3.out).su, (goesRf.after HR.out HB3.out).cg⟩)
  go_wp2_with (first | (refine wpList_loadB HX3.out (by rfl) 54 _ (by rfl) (by rfl) _ Tryz.underlying54 rfl (by kernel_rfl) ?_) | (refine wpList_storeB HY3.out (by rfl) 54 _ _ (by rfl) 0 (rfV { x with write := v } t) (by rfl) (by rfl) (by kernel_rfl) (by show 0 + 27 ≤ 27; decide) (by rfl) ?_; intro w9 hb9 hg9; have HY9 := Lib.hid hb9; have HG9 := Lib.hid hg9; clear hb9 hg9))
  refine bodyPost_ret (results_box3 (vs := rfV { x with write := v } t) rfl HY9.out (by rfl) (by rfl) (by rfl) _ Tryz.underlying54 rfl (by kernel_rfl)) rfl ?_
  have hgz := HG9.out.size
  have HB9 : Below w.heap.size w w9 := Below.trans HB3.out (below_of_grown' HG9.out (by omega) HB3.out.size)
  refine ⟨{ x with write := v }, t, q, by rw [HRE.out]; rfl, goesRf.mono (goesRf.keep HR3.out HG9.out.size fun b hb hl => HG9.out.block b hl (fun e => by have := hb.2; injection e with e; omega)) (fun b hb _ => .inl hb.1), fun y rest h => ?_, by rw [rd_119]; exact at_bind HQ.out, HB9⟩
  rw [← HV.out]
  rw [rd_119] at h
  exact is_bind h

set_option maxHeartbeats 4000000 in
set_option maxRecDepth 100000 in
theorem rrd_s {S S2 : Nat → Prop} {A : Option Addr} {m c a : Nat} {bs : B} {x : Rf} {t : Tfs} {w : World} (hs : Sl S w A m c bs) (hm : m ≤ 140737488355328) (ha : a ≤ m) (hR : RfR S2 w x t) :
    Calls Tryz.prog 19 #[.agg (rfV x t).toArray, .int .u8 115, .slice A m c, .int .i64 (a : Int)] w fun e w' => RdP S2 w bs (readL 115 x (bs.drop a)) e w' := by
  have HR := Lib.hid (goesRf.mono (S' := fun b => S2 b ∧ b < w.heap.size) hR fun b h1 h2 => ⟨h1, h2⟩); clear hR
  have hcp := hs.cap
  have hcm := hs.capMax
  have hln := Lib.hid hs.len
  have HS := Lib.hid hs; clear hs
  obtain ⟨w1, hw1⟩ : ∃ w1, w1 = (w.alloc (.cells (rfV x t).toArray 54)).alloc (.cells #[.int .u8 0, .int .u32 0, .string ⟨#[]⟩, .int .u16 0, .int .i32 0, .int .i32 0, .int .i32 0, .int .u8 0, .string ⟨#[]⟩, .string ⟨#[]⟩, .string ⟨#[]⟩, .slice none 0 0, .string ⟨#[]⟩, .slice none 0 0, .int .i64 0, .string ⟨#[]⟩, .string ⟨#[]⟩, .string ⟨#[]⟩, .string ⟨#[]⟩, .int .u32 0, .string ⟨#[]⟩, .string ⟨#[]⟩, .string ⟨#[]⟩, .string ⟨#[]⟩, .slice none 0 0, .int .u32 0, .string ⟨#[]⟩] 54) := ⟨_, rfl⟩
  have b1 : Below w.heap.size w (w.alloc (.cells (rfV x t).toArray 54)) := (Below.refl _ _).alloc (Nat.le_refl _) _
  have hz0 : (w.alloc (.cells (rfV x t).toArray 54)).heap.size = w.heap.size + 1 := World.size_alloc _ _
  have hsz : w1.heap.size = w.heap.size + 1 + 1 := by rw [hw1]; simp
  have b2 : Below (w.alloc (.cells (rfV x t).toArray 54)).heap.size (w.alloc (.cells (rfV x t).toArray 54)) w1 := by rw [hw1]; exact (Below.refl _ _).alloc (Nat.le_refl _) _
  have HB1 : Hid (Below w.heap.size w w1) := Lib.hid (seqB b1 b2)
  have HX1 : Hid (Bx (fun b => b = w.heap.size) w1 w.heap.size (rfV x t)) := Lib.hid (Bx.after (Bx.alloc w (rfV x t).toArray 54 (S := fun b => b = w.heap.size) rfl rfl) b2)
  have HY1 : Hid (Bx (fun b => b = w.heap.size + 1) w1 (w.heap.size + 1) zeroRf) := Lib.hid (by rw [hw1]; exact Bx.alloc _ #[.int .u8 0, .int .u32 0, .string ⟨#[]⟩, .int .u16 0, .int .i32 0, .int .i32 0, .int .i32 0, .int .u8 0, .string ⟨#[]⟩, .string ⟨#[]⟩, .string ⟨#[]⟩, .slice none 0 0, .string ⟨#[]⟩, .slice none 0 0, .int .i64 0, .string ⟨#[]⟩, .string ⟨#[]⟩, .string ⟨#[]⟩, .string ⟨#[]⟩, .int .u32 0, .string ⟨#[]⟩, .string ⟨#[]⟩, .string ⟨#[]⟩, .string ⟨#[]⟩, .slice none 0 0, .int .u32 0, .string ⟨#[]⟩] 54 (X := w.heap.size + 1) (S := fun b => b = w.heap.size + 1) (by simp) (by simp))
  have HW := Lib.hid hw1; have HSZ := Lib.hid hsz
  clear hw1 b1 b2 hz0 hsz
  go_enter Tryz.func19, Tryz.ntmps19
  go_upto_region 1 with fail
  rw [show ((w.alloc (.cells (rfV x t).toArray 54)).alloc (.cells #[.int .u8 0, .int .u32 0, .string ⟨#[]⟩, .int .u16 0, .int .i32 0, .int .i32 0, .int .i32 0, .int .u8 0, .string ⟨#[]⟩, .string ⟨#[]⟩, .string ⟨#[]⟩, .slice none 0 0, .string ⟨#[]⟩, .slice none 0 0, .int .i64 0, .string ⟨#[]⟩, .string ⟨#[]⟩, .string ⟨#[]⟩, .string ⟨#[]⟩, .int .u32 0, .string ⟨#[]⟩, .string ⟨#[]⟩, .string ⟨#[]⟩, .string ⟨#[]⟩, .slice none 0 0, .int .u32 0, .string ⟨#[]⟩] 54)) = w1 from HW.out.symm]
  have hlx : w.heap.size < w1.heap.size := by have := HSZ.out; omega
  have hly : w.heap.size + 1 < w1.heap.size := by have := HSZ.out; omega
  go_wp2_with fail
  refine (rgetText_any (S := S) (a := a) (HS.out.after HB1.out) hm ha _ rfl).mono ?_
  rintro e w2 ⟨q, rfl, hq, rfl⟩
  obtain ⟨w2, hw2⟩ : ∃ w2, w2 = w1 := ⟨_, rfl⟩
  have hb : Below w1.heap.size w1 w2 := by rw [hw2]; exact Below.refl _ _
  rw [← hw2]
  clear hw2
  have HQ := Lib.hid hq; clear hq
  have HB2 : Hid (Below w.heap.size w w2) := Lib.hid (Below.trans HB1.out (hb.mono (by have := HSZ.out; omega)))
  have HX2 := Lib.hid (goesBx.after HX1.out hb)
  have HY2 := Lib.hid (goesBx.after HY1.out hb)
  have hlx2 := HX2.out.lt
  have hly2 := HY2.out.lt
  clear hlx hly
  have HRE : Hid (rerr (readL 115 x (bs.drop a)) = rerr (getText (bs.drop a))) := Lib.hid (by rw [rd_115]; exact err_bind)
  obtain ⟨er, her⟩ : ∃ er, rerr (getText (bs.drop a)) = er := ⟨_, rfl⟩
  rw [her] at HRE ⊢
  clear her
  obtain ⟨v, hv⟩ : ∃ v, rval [] (getText (bs.drop a)) = v := ⟨_, rfl⟩
  rw [hv]
  have HV := Lib.hid hv; clear hv
  have kf := HX2.out.c 9 _ rfl
  have ff := HX2.out.fr 9
  go_upto_region 57 with fail
  clear kf ff
  have HX3 : Hid (Bx (fun b => b = w.heap.size) (w2.setCell ⟨w.heap.size, 9, none⟩ (.string (str v))) w.heap.size (rfV { x with space := v } t)) := Lib.hid (HX2.out.put 9 (.string (str v)) (by show 9 < 27; decide))
  have HY3 : Hid (Bx (fun b => b = w.heap.size + 1) (w2.setCell ⟨w.heap.size, 9, none⟩ (.string (str v))) (w.heap.size + 1) zeroRf) := Lib.hid (goesBx.keep HY2.out (by simp) fun b hb hl => Below.heap_setCell _ ⟨w.heap.size, 9, none⟩ _ b (by show b ≠ w.heap.size; omega))
  have HB3 : Hid (Below w.heap.size w (w2.setCell ⟨w.heap.size, 9, none⟩ (.string (str v)))) := Lib.hid (HB2.out.setCell (Nat.le_refl _) _)
  have HR3 : Hid (RfR (fun b => S2 b ∧ b < w.heap.size) (w2.setCell ⟨w.heap.size, 9, none⟩ (.string (str v))) { x with space := v } t) := Lib.hid (⟨(goesRf.after HR.out HB3.out).fa, (goesRf.after HR.out HB3.out).su, (goesRf.after HR.out HB3.out).cg⟩)
  go_wp2_with (first | (refine wpList_loadB HX3.out (by rfl) 54 _ (by rfl) (by rfl) _ Tryz.underlying54 rfl (by kernel_rfl) ?_) | (refine wpList_storeB HY3.out (by rfl) 54 _ _ (by rfl) 0 (rfV { x with space := v } t) (by rfl) (by rfl) (by kernel_rfl) (by show 0 + 27 ≤ 27; decide) (by rfl) ?_; intro w9 hb9 hg9; have HY9 := Lib.hid hb9; have HG9 := Lib.hid hg9; clear hb9 hg9))
  refine bodyPost_ret (results_box3 (vs := rfV { x with space := v } t) rfl HY9.out (by rfl) (by rfl) (by rfl) _ Tryz.underlying54 rfl (by kernel_rfl)) rfl ?_
  have hgz := HG9.out.size
  have HB9 : Below w.heap.size w w9 := Below.trans HB3.out (below_of_grown' HG9.out (by omega) HB3.out.size)
  refine ⟨{ x with space := v }, t, q, by rw [HRE.out]; rfl, goesRf.mono (goesRf.keep HR3.out HG9.out.size fun b hb hl => HG9.out.block b hl (fun e => by have := hb.2; injection e with e; omega)) (fun b hb _ => .inl hb.1), fun y rest h => ?_, by rw [rd_115]; exact at_bind HQ.out, HB9⟩
  rw [← HV.out]
  rw [rd_115] at h
  exact is_bind h

set_option maxHeartbeats 4000000 in
set_option maxRecDepth 100000 in
theorem rrd_e {S S2 : Nat → Prop} {A : Option Addr} {m c a : Nat} {bs : B} {x : Rf} {t : Tfs} {w : World} (hs : Sl S w A m c bs) (hm : m ≤ 140737488355328) (ha : a ≤ m) (hR : RfR S2 w x t) :
    Calls Tryz.prog 19 #[.agg (rfV x t).toArray, .int .u8 101, .slice A m c, .int .i64 (a : Int)] w fun e w' => RdP S2 w bs (readL 101 x (bs.drop a)) e w' := by
  have HR := Lib.hid (goesRf.mono (S' := fun b => S2 b ∧ b < w.heap.size) hR fun b h1 h2 => ⟨h1, h2⟩); clear hR
  have hcp := hs.cap
  have hcm := hs.capMax
  have hln := Lib.hid hs.len
  have HS := Lib.hid hs; clear hs
  obtain ⟨w1, hw1⟩ : ∃ w1, w1 = (w.alloc (.cells (rfV x t).toArray 54)).alloc (.cells #[.int .u8 0, .int .u32 0, .string ⟨#[]⟩, .int .u16 0, .int .i32 0, .int .i32 0, .int .i32 0, .int .u8 0, .string ⟨#[]⟩, .string ⟨#[]⟩, .string ⟨#[]⟩, .slice none 0 0, .string ⟨#[]⟩, .slice none 0 0, .int .i64 0, .string ⟨#[]⟩, .string ⟨#[]⟩, .string ⟨#[]⟩, .string ⟨#[]⟩, .int .u32 0, .string ⟨#[]⟩, .string ⟨#[]⟩, .string ⟨#[]⟩, .string ⟨#[]⟩, .slice none 0 0, .int .u32 0, .string ⟨#[]⟩] 54) := ⟨_, rfl⟩
  have b1 : Below w.heap.size w (w.alloc (.cells (rfV x t).toArray 54)) := (Below.refl _ _).alloc (Nat.le_refl _) _
  have hz0 : (w.alloc (.cells (rfV x t).toArray 54)).heap.size = w.heap.size + 1 := World.size_alloc _ _
  have hsz : w1.heap.size = w.heap.size + 1 + 1 := by rw [hw1]; simp
  have b2 : Below (w.alloc (.cells (rfV x t).toArray 54)).heap.size (w.alloc (.cells (rfV x t).toArray 54)) w1 := by rw [hw1]; exact (Below.refl _ _).alloc (Nat.le_refl _) _
  have HB1 : Hid (Below w.heap.size w w1) := Lib.hid (seqB b1 b2)
  have HX1 : Hid (Bx (fun b => b = w.heap.size) w1 w.heap.size (rfV x t)) := Lib.hid (Bx.after (Bx.alloc w (rfV x t).toArray 54 (S := fun b => b = w.heap.size) rfl rfl) b2)
  have HY1 : Hid (Bx (fun b => b = w.heap.size + 1) w1 (w.heap.size + 1) zeroRf) := Lib.hid (by rw [hw1]; exact Bx.alloc _ #[.int .u8 0, .int .u32 0, .string ⟨#[]⟩, .int .u16 0, .int .i32 0, .int .i32 0, .int .i32 0, .int .u8 0, .string ⟨#[]⟩, .string ⟨#[]⟩, .string ⟨#[]⟩, .slice none 0 0, .string ⟨#[]⟩, .slice none 0 0, .int .i64 0, .string ⟨#[]⟩, .string ⟨#[]⟩, .string ⟨#[]⟩, .string ⟨#[]⟩, .int .u32 0, .string ⟨#[]⟩, .string ⟨#[]⟩, .string ⟨#[]⟩, .string ⟨#[]⟩, .slice none 0 0, .int .u32 0, .string ⟨#[]⟩] 54 (X := w.heap.size + 1) (S := fun b => b = w.heap.size + 1) (by simp) (by simp))
  have HW := Lib.hid hw1; have HSZ := Lib.hid hsz
  clear hw1 b1 b2 hz0 hsz
  go_enter Tryz.func19, Tryz.ntmps19
  go_upto_region 1 with fail
  rw [show ((w.alloc (.cells (rfV x t).toArray 54)).alloc (.cells #[.int .u8 0, .int .u32 0, .string ⟨#[]⟩, .int .u16 0, .int .i32 0, .int .i32 0, .int .i32 0, .int .u8 0, .string ⟨#[]⟩, .string ⟨#[]⟩, .string ⟨#[]⟩, .slice none 0 0, .string ⟨#[]⟩, .slice none 0 0, .int .i64 0, .string ⟨#[]⟩, .string ⟨#[]⟩, .string ⟨#[]⟩, .string ⟨#[]⟩, .int .u32 0, .string ⟨#[]⟩, .string ⟨#[]⟩, .string ⟨#[]⟩, .string ⟨#[]⟩, .slice none 0 0, .int .u32 0, .string ⟨#[]⟩] 54)) = w1 from HW.out.symm]
  have hlx : w.heap.size < w1.heap.size := by have := HSZ.out; omega
  have hly : w.heap.size + 1 < w1.heap.size := by have := HSZ.out; omega
  go_wp2_with fail
  refine (rgetText_any (S := S) (a := a) (HS.out.after HB1.out) hm ha _ rfl).mono ?_
  rintro e w2 ⟨q, rfl, hq, rfl⟩
  obtain ⟨w2, hw2⟩ : ∃ w2, w2 = w1 := ⟨_, rfl⟩
  have hb : Below w1.heap.size w1 w2 := by rw [hw2]; exact Below.refl _ _
  rw [← hw2]
  clear hw2
  have HQ := Lib.hid hq; clear hq
  have HB2 : Hid (Below w.heap.size w w2) := Lib.hid (Below.trans HB1.out (hb.mono (by have := HSZ.out; omega)))
  have HX2 := Lib.hid (goesBx.after HX1.out hb)
  have HY2 := Lib.hid (goesBx.after HY1.out hb)
  have hlx2 := HX2.out.lt
  have hly2 := HY2.out.lt
  clear hlx hly
  have HRE : Hid (rerr (readL 101 x (bs.drop a)) = rerr (getText (bs.drop a))) := Lib.hid (by rw [rd_101]; exact err_bind)
  obtain ⟨er, her⟩ : ∃ er, rerr (getText (bs.drop a)) = er := ⟨_, rfl⟩
  rw [her] at HRE ⊢
  clear her
  obtain ⟨v, hv⟩ : ∃ v, rval [] (getText (bs.drop a)) = v := ⟨_, rfl⟩
  rw [hv]
  have HV := Lib.hid hv; clear hv
  have kf := HX2.out.c 10 _ rfl
  have ff := HX2.out.fr 10
  go_upto_region 57 with fail
  clear kf ff
  have HX3 : Hid (Bx (fun b => b = w.heap.size) (w2.setCell ⟨w.heap.size, 10, none⟩ (.string (str v))) w.heap.size (rfV { x with name := v } t)) := Lib.hid (HX2.out.put 10 (.string (str v)) (by show 10 < 27; decide))
  have HY3 : Hid (Bx (fun b => b = w.heap.size + 1) (w2.setCell ⟨w.heap.size, 10, none⟩ (.string (str v))) (w.heap.size + 1) zeroRf) := Lib.hid (goesBx.keep HY2.out (by simp) fun b hb hl => Below.heap_setCell _ ⟨w.heap.size, 10, none⟩ _ b (by show b ≠ w.heap.size; omega))
  have HB3 : Hid (Below w.heap.size w (w2.setCell ⟨w.heap.size, 10, none⟩ (.string (str v)))) := Lib.hid (HB2.out.setCell (Nat.le_refl _) _)
  have HR3 : Hid (RfR (fun b => S2 b ∧ b < w.heap.size) (w2.setCell ⟨w.heap.size, 10, none⟩ (.string (str v))) { x with name := v } t) := Lib.hid (⟨(goesRf.after HR.out HB3.out).fa, (goesRf.after HR.out HB3.out).su, (goesRf.after HR.out HB3.out).cg⟩)
  go_wp2_with (first | (refine wpList_loadB HX3.out (by rfl) 54 _ (by rfl) (by rfl) _ Tryz.underlying54 rfl (by kernel_rfl) ?_) | (refine wpList_storeB HY3.out (by rfl) 54 _ _ (by rfl) 0 (rfV { x with name := v } t) (by rfl) (by rfl) (by kernel_rfl) (by show 0 + 27 ≤ 27; decide) (by rfl) ?_; intro w9 hb9 hg9; have HY9 := Lib.hid hb9; have HG9 := Lib.hid hg9; clear hb9 hg9))
  refine bodyPost_ret (results_box3 (vs := rfV { x with name := v } t) rfl HY9.out (by rfl) (by rfl) (by rfl) _ Tryz.underlying54 rfl (by kernel_rfl)) rfl ?_
  have hgz := HG9.out.size
  have HB9 : Below w.heap.size w w9 := Below.trans HB3.out (below_of_grown' HG9.out (by omega) HB3.out.size)
  refine ⟨{ x with name := v }, t, q, by rw [HRE.out]; rfl, goesRf.mono (goesRf.keep HR3.out HG9.out.size fun b hb hl => HG9.out.block b hl (fun e => by have := hb.2; injection e with e; omega)) (fun b hb _ => .inl hb.1), fun y rest h => ?_, by rw [rd_101]; exact at_bind HQ.out, HB9⟩
  rw [← HV.out]
  rw [rd_101] at h
  exact is_bind h

set_option maxHeartbeats 4000000 in
set_option maxRecDepth 100000 in
theorem rrd_a {S S2 : Nat → Prop} {A : Option Addr} {m c a : Nat} {bs : B} {x : Rf} {t : Tfs} {w : World} (hs : Sl S w A m c bs) (hm : m ≤ 140737488355328) (ha : a ≤ m) (hR : RfR S2 w x t) :
    Calls Tryz.prog 19 #[.agg (rfV x t).toArray, .int .u8 97, .slice A m c, .int .i64 (a : Int)] w fun e w' => RdP S2 w bs (readL 97 x (bs.drop a)) e w' := by
  have HR := Lib.hid (goesRf.mono (S' := fun b => S2 b ∧ b < w.heap.size) hR fun b h1 h2 => ⟨h1, h2⟩); clear hR
  have hcp := hs.cap
  have hcm := hs.capMax
  have hln := Lib.hid hs.len
  have HS := Lib.hid hs; clear hs
  obtain ⟨w1, hw1⟩ : ∃ w1, w1 = (w.alloc (.cells (rfV x t).toArray 54)).alloc (.cells #[.int .u8 0, .int .u32 0, .string ⟨#[]⟩, .int .u16 0, .int .i32 0, .int .i32 0, .int .i32 0, .int .u8 0, .string ⟨#[]⟩, .string ⟨#[]⟩, .string ⟨#[]⟩, .slice none 0 0, .string ⟨#[]⟩, .slice none 0 0, .int .i64 0, .string ⟨#[]⟩, .string ⟨#[]⟩, .string ⟨#[]⟩, .string ⟨#[]⟩, .int .u32 0, .string ⟨#[]⟩, .string ⟨#[]⟩, .string ⟨#[]⟩, .string ⟨#[]⟩, .slice none 0 0, .int .u32 0, .string ⟨#[]⟩] 54) := ⟨_, rfl⟩
  have b1 : Below w.heap.size w (w.alloc (.cells (rfV x t).toArray 54)) := (Below.refl _ _).alloc (Nat.le_refl _) _
  have hz0 : (w.alloc (.cells (rfV x t).toArray 54)).heap.size = w.heap.size + 1 := World.size_alloc _ _
  have hsz : w1.heap.size = w.heap.size + 1 + 1 := by rw [hw1]; simp
  have b2 : Below (w.alloc (.cells (rfV x t).toArray 54)).heap.size (w.alloc (.cells (rfV x t).toArray 54)) w1 := by rw [hw1]; exact (Below.refl _ _).alloc (Nat.le_refl _) _
  have HB1 : Hid (Below w.heap.size w w1) := Lib.hid (seqB b1 b2)
  have HX1 : Hid (Bx (fun b => b = w.heap.size) w1 w.heap.size (rfV x t)) := Lib.hid (Bx.after (Bx.alloc w (rfV x t).toArray 54 (S := fun b => b = w.heap.size) rfl rfl) b2)
  have HY1 : Hid (Bx (fun b => b = w.heap.size + 1) w1 (w.heap.size + 1) zeroRf) := Lib.hid (by rw [hw1]; exact Bx.alloc _ #[.int .u8 0, .int .u32 0, .string ⟨#[]⟩, .int .u16 0, .int .i32 0, .int .i32 0, .int .i32 0, .int .u8 0, .string ⟨#[]⟩, .string ⟨#[]⟩, .string ⟨#[]⟩, .slice none 0 0, .string ⟨#[]⟩, .slice none 0 0, .int .i64 0, .string ⟨#[]⟩, .string ⟨#[]⟩, .string ⟨#[]⟩, .string ⟨#[]⟩, .int .u32 0, .string ⟨#[]⟩, .string ⟨#[]⟩, .string ⟨#[]⟩, .string ⟨#[]⟩, .slice none 0 0, .int .u32 0, .string ⟨#[]⟩] 54 (X := w.heap.size + 1) (S := fun b => b = w.heap.size + 1) (by simp) (by simp))
  have HW := Lib.hid hw1; have HSZ := Lib.hid hsz
  clear hw1 b1 b2 hz0 hsz
  go_enter Tryz.func19, Tryz.ntmps19
  go_upto_region 1 with fail
  rw [show ((w.alloc (.cells (rfV x t).toArray 54)).alloc (.cells #[.int .u8 0, .int .u32 0, .string ⟨#[]⟩, .int .u16 0, .int .i32 0, .int .i32 0, .int .i32 0, .int .u8 0, .string ⟨#[]⟩, .string ⟨#[]⟩, .string ⟨#[]⟩, .slice none 0 0, .string ⟨#[]⟩, .slice none 0 0, .int .i64 0, .string ⟨#[]⟩, .string ⟨#[]⟩, .string ⟨#[]⟩, .string ⟨#[]⟩, .int .u32 0, .string ⟨#[]⟩, .string ⟨#[]⟩, .string ⟨#[]⟩, .string ⟨#[]⟩, .slice none 0 0, .int .u32 0, .string ⟨#[]⟩] 54)) = w1 from HW.out.symm]
  have hlx : w.heap.size < w1.heap.size := by have := HSZ.out; omega
  have hly : w.heap.size + 1 < w1.heap.size := by have := HSZ.out; omega
  have kf := HX1.out.c 11 _ rfl
  have ff := HX1.out.fr 11
  clear kf ff
  go_wp2_with fail
  refine (rgeti0_any (S := S) (a := a) (HS.out.after HB1.out) hm ha _ rfl).mono ?_
  rintro e w2 ⟨A2, n2, c2, q, rfl, har, hq, hb⟩
  have HAR := Lib.hid har; clear har
  have HQ := Lib.hid hq; clear hq
  have HB2 : Hid (Below w.heap.size w w2) := Lib.hid (Below.trans HB1.out (hb.mono (by have := HSZ.out; omega)))
  have HX2 := Lib.hid (goesBx.after HX1.out hb)
  have HY2 := Lib.hid (goesBx.after HY1.out hb)
  have hlx2 := HX2.out.lt
  have hly2 := HY2.out.lt
  clear hlx hly
  have HRE : Hid (rerr (readL 97 x (bs.drop a)) = rerr (getL (itemR 0) (bs.drop a))) := Lib.hid (by rw [rd_97, gi_texts, err_map]; exact err_bind)
  obtain ⟨er, her⟩ : ∃ er, rerr (getL (itemR 0) (bs.drop a)) = er := ⟨_, rfl⟩
  rw [her] at HRE ⊢
  clear her
  obtain ⟨v, hv⟩ : ∃ v, rval [] (getTexts (bs.drop a)) = v := ⟨_, rfl⟩
  have HV := Lib.hid hv
  have HAR2 : Hid (Arr 5 (itemP (fun b => w1.heap.size ≤ b) w2) (fun b => w1.heap.size ≤ b) w2 A2 n2 c2 (v.map Thing.ofText)) := Lib.hid (by rw [← hv, ← val_map (List.map Thing.ofText) rfl _, ← gi_texts]; exact HAR.out)
  clear hv
  have kf := HX2.out.c 11 _ rfl
  have ff := HX2.out.fr 11
  go_upto_region 57 with fail
  clear kf ff
  have HX3 : Hid (Bx (fun b => b = w.heap.size) (w2.setCell ⟨w.heap.size, 11, none⟩ (.slice A2 n2 c2)) w.heap.size (rfV { x with args := v } { t with fa := ⟨A2, n2, c2⟩ })) := Lib.hid (HX2.out.put 11 (.slice A2 n2 c2) (by show 11 < 27; decide))
  have HY3 : Hid (Bx (fun b => b = w.heap.size + 1) (w2.setCell ⟨w.heap.size, 11, none⟩ (.slice A2 n2 c2)) (w.heap.size + 1) zeroRf) := Lib.hid (goesBx.keep HY2.out (by simp) fun b hb hl => Below.heap_setCell _ ⟨w.heap.size, 11, none⟩ _ b (by show b ≠ w.heap.size; omega))
  have HB3 : Hid (Below w.heap.size w (w2.setCell ⟨w.heap.size, 11, none⟩ (.slice A2 n2 c2))) := Lib.hid (HB2.out.setCell (Nat.le_refl _) _)
  have HA3 : Hid (Arr 5 (itemP (fun b => w1.heap.size ≤ b ∧ b < w2.heap.size) (w2.setCell ⟨w.heap.size, 11, none⟩ (.slice A2 n2 c2))) (fun b => w1.heap.size ≤ b ∧ b < w2.heap.size) (w2.setCell ⟨w.heap.size, 11, none⟩ (.slice A2 n2 c2)) A2 n2 c2 (v.map Thing.ofText)) := Lib.hid (goesArrI.keep (goesArrI.mono (S' := fun b => w1.heap.size ≤ b ∧ b < w2.heap.size) HAR2.out fun b h1 h2 => ⟨h1, h2⟩) (by simp) fun b hb hl => Below.heap_setCell _ ⟨w.heap.size, 11, none⟩ _ b (by show b ≠ w.heap.size; have := HSZ.out; omega))
  have HR3 : Hid (RfR (fun b => (S2 b ∧ b < w.heap.size) ∨ w1.heap.size ≤ b) (w2.setCell ⟨w.heap.size, 11, none⟩ (.slice A2 n2 c2)) { x with args := v } { t with fa := ⟨A2, n2, c2⟩ }) := Lib.hid ⟨goesArrI.mono HA3.out (fun b hb _ => .inr hb.1), goesArrI.mono (goesRf.after HR.out HB3.out).su (fun b hb _ => .inl hb), goesArrI.mono (goesRf.after HR.out HB3.out).cg (fun b hb _ => .inl hb)⟩
  go_wp2_with (first | (refine wpList_loadB HX3.out (by rfl) 54 _ (by rfl) (by rfl) _ Tryz.underlying54 rfl (by kernel_rfl) ?_) | (refine wpList_storeB HY3.out (by rfl) 54 _ _ (by rfl) 0 (rfV { x with args := v } { t with fa := ⟨A2, n2, c2⟩ }) (by rfl) (by rfl) (by kernel_rfl) (by show 0 + 27 ≤ 27; decide) (by rfl) ?_; intro w9 hb9 hg9; have HY9 := Lib.hid hb9; have HG9 := Lib.hid hg9; clear hb9 hg9))
  refine bodyPost_ret (results_box3 (vs := rfV { x with args := v } { t with fa := ⟨A2, n2, c2⟩ }) rfl HY9.out (by rfl) (by rfl) (by rfl) _ Tryz.underlying54 rfl (by kernel_rfl)) rfl ?_
  have hgz := HG9.out.size
  have HB9 : Below w.heap.size w w9 := Below.trans HB3.out (below_of_grown' HG9.out (by omega) HB3.out.size)
  refine ⟨{ x with args := v }, { t with fa := ⟨A2, n2, c2⟩ }, q, by rw [HRE.out]; rfl, goesRf.mono (goesRf.keep HR3.out HG9.out.size fun b hb hl => HG9.out.block b hl (fun e => by have := HSZ.out; injection e with e; rcases hb with hb | hb; have := hb.2; omega; omega)) (fun b hb hl => by have := HSZ.out; rcases hb with hb | hb; exact .inl hb.1; exact .inr (by omega)), fun y rest h => ?_, by rw [rd_97]; exact at_bind (at_map _ (gi_texts _ ▸ HQ.out)), HB9⟩
  rw [← HV.out]
  rw [rd_97] at h
  exact is_bind h

set_option maxHeartbeats 4000000 in
set_option maxRecDepth 100000 in
theorem rrd_i {S S2 : Nat → Prop} {A : Option Addr} {m c a : Nat} {bs : B} {x : Rf} {t : Tfs} {w : World} (hs : Sl S w A m c bs) (hm : m ≤ 140737488355328) (ha : a ≤ m) (hR : RfR S2 w x t) :
    Calls Tryz.prog 19 #[.agg (rfV x t).toArray, .int .u8 105, .slice A m c, .int .i64 (a : Int)] w fun e w' => RdP S2 w bs (readL 105 x (bs.drop a)) e w' := by
  have HR := Lib.hid (goesRf.mono (S' := fun b => S2 b ∧ b < w.heap.size) hR fun b h1 h2 => ⟨h1, h2⟩); clear hR
  have hcp := hs.cap
  have hcm := hs.capMax
  have hln := Lib.hid hs.len
  have HS := Lib.hid hs; clear hs
  obtain ⟨w1, hw1⟩ : ∃ w1, w1 = (w.alloc (.cells (rfV x t).toArray 54)).alloc (.cells #[.int .u8 0, .int .u32 0, .string ⟨#[]⟩, .int .u16 0, .int .i32 0, .int .i32 0, .int .i32 0, .int .u8 0, .string ⟨#[]⟩, .string ⟨#[]⟩, .string ⟨#[]⟩, .slice none 0 0, .string ⟨#[]⟩, .slice none 0 0, .int .i64 0, .string ⟨#[]⟩, .string ⟨#[]⟩, .string ⟨#[]⟩, .string ⟨#[]⟩, .int .u32 0, .string ⟨#[]⟩, .string ⟨#[]⟩, .string ⟨#[]⟩, .string ⟨#[]⟩, .slice none 0 0, .int .u32 0, .string ⟨#[]⟩] 54) := ⟨_, rfl⟩
  have b1 : Below w.heap.size w (w.alloc (.cells (rfV x t).toArray 54)) := (Below.refl _ _).alloc (Nat.le_refl _) _
  have hz0 : (w.alloc (.cells (rfV x t).toArray 54)).heap.size = w.heap.size + 1 := World.size_alloc _ _
  have hsz : w1.heap.size = w.heap.size + 1 + 1 := by rw [hw1]; simp
  have b2 : Below (w.alloc (.cells (rfV x t).toArray 54)).heap.size (w.alloc (.cells (rfV x t).toArray 54)) w1 := by rw [hw1]; exact (Below.refl _ _).alloc (Nat.le_refl _) _
  have HB1 : Hid (Below w.heap.size w w1) := Lib.hid (seqB b1 b2)
  have HX1 : Hid (Bx (fun b => b = w.heap.size) w1 w.heap.size (rfV x t)) := Lib.hid (Bx.after (Bx.alloc w (rfV x t).toArray 54 (S := fun b => b = w.heap.size) rfl rfl) b2)
  have HY1 : Hid (Bx (fun b => b = w.heap.size + 1) w1 (w.heap.size + 1) zeroRf) := Lib.hid (by rw [hw1]; exact Bx.alloc _ #[.int .u8 0, .int .u32 0, .string ⟨#[]⟩, .int .u16 0, .int .i32 0, .int .i32 0, .int .i32 0, .int .u8 0, .string ⟨#[]⟩, .string ⟨#[]⟩, .string ⟨#[]⟩, .slice none 0 0, .string ⟨#[]⟩, .slice none 0 0, .int .i64 0, .string ⟨#[]⟩, .string ⟨#[]⟩, .string ⟨#[]⟩, .string ⟨#[]⟩, .int .u32 0, .string ⟨#[]⟩, .string ⟨#[]⟩, .string ⟨#[]⟩, .string ⟨#[]⟩, .slice none 0 0, .int .u32 0, .string ⟨#[]⟩] 54 (X := w.heap.size + 1) (S := fun b => b = w.heap.size + 1) (by simp) (by simp))
  have HW := Lib.hid hw1; have HSZ := Lib.hid hsz
  clear hw1 b1 b2 hz0 hsz
  go_enter Tryz.func19, Tryz.ntmps19
  go_upto_region 1 with fail
  rw [show ((w.alloc (.cells (rfV x t).toArray 54)).alloc (.cells #[.int .u8 0, .int .u32 0, .string ⟨#[]⟩, .int .u16 0, .int .i32 0, .int .i32 0, .int .i32 0, .int .u8 0, .string ⟨#[]⟩, .string ⟨#[]⟩, .string ⟨#[]⟩, .slice none 0 0, .string ⟨#[]⟩, .slice none 0 0, .int .i64 0, .string ⟨#[]⟩, .string ⟨#[]⟩, .string ⟨#[]⟩, .string ⟨#[]⟩, .int .u32 0, .string ⟨#[]⟩, .string ⟨#[]⟩, .string ⟨#[]⟩, .string ⟨#[]⟩, .slice none 0 0, .int .u32 0, .string ⟨#[]⟩] 54)) = w1 from HW.out.symm]
  have hlx : w.heap.size < w1.heap.size := by have := HSZ.out; omega
  have hly : w.heap.size + 1 < w1.heap.size := by have := HSZ.out; omega
  go_wp2_with fail
  refine (rgetText_any (S := S) (a := a) (HS.out.after HB1.out) hm ha _ rfl).mono ?_
  rintro e w2 ⟨q, rfl, hq, rfl⟩
  obtain ⟨w2, hw2⟩ : ∃ w2, w2 = w1 := ⟨_, rfl⟩
  have hb : Below w1.heap.size w1 w2 := by rw [hw2]; exact Below.refl _ _
  rw [← hw2]
  clear hw2
  have HQ := Lib.hid hq; clear hq
  have HB2 : Hid (Below w.heap.size w w2) := Lib.hid (Below.trans HB1.out (hb.mono (by have := HSZ.out; omega)))
  have HX2 := Lib.hid (goesBx.after HX1.out hb)
  have HY2 := Lib.hid (goesBx.after HY1.out hb)
  have hlx2 := HX2.out.lt
  have hly2 := HY2.out.lt
  clear hlx hly
  have HRE : Hid (rerr (readL 105 x (bs.drop a)) = rerr (getText (bs.drop a))) := Lib.hid (by rw [rd_105]; exact err_bind)
  obtain ⟨er, her⟩ : ∃ er, rerr (getText (bs.drop a)) = er := ⟨_, rfl⟩
  rw [her] at HRE ⊢
  clear her
  obtain ⟨v, hv⟩ : ∃ v, rval [] (getText (bs.drop a)) = v := ⟨_, rfl⟩
  rw [hv]
  have HV := Lib.hid hv; clear hv
  have kf := HX2.out.c 12 _ rfl
  have ff := HX2.out.fr 12
  go_upto_region 57 with fail
  clear kf ff
  have HX3 : Hid (Bx (fun b => b = w.heap.size) (w2.setCell ⟨w.heap.size, 12, none⟩ (.string (str v))) w.heap.size (rfV { x with ident := v } t)) := Lib.hid (HX2.out.put 12 (.string (str v)) (by show 12 < 27; decide))
  have HY3 : Hid (Bx (fun b => b = w.heap.size + 1) (w2.setCell ⟨w.heap.size, 12, none⟩ (.string (str v))) (w.heap.size + 1) zeroRf) := Lib.hid (goesBx.keep HY2.out (by simp) fun b hb hl => Below.heap_setCell _ ⟨w.heap.size, 12, none⟩ _ b (by show b ≠ w.heap.size; omega))
  have HB3 : Hid (Below w.heap.size w (w2.setCell ⟨w.heap.size, 12, none⟩ (.string (str v)))) := Lib.hid (HB2.out.setCell (Nat.le_refl _) _)
  have HR3 : Hid (RfR (fun b => S2 b ∧ b < w.heap.size) (w2.setCell ⟨w.heap.size, 12, none⟩ (.string (str v))) { x with ident := v } t) := Lib.hid (⟨(goesRf.after HR.out HB3.out).fa, (goesRf.after HR.out HB3.out).su, (goesRf.after HR.out HB3.out).cg⟩)
  go_wp2_with (first | (refine wpList_loadB HX3.out (by rfl) 54 _ (by rfl) (by rfl) _ Tryz.underlying54 rfl (by kernel_rfl) ?_) | (refine wpList_storeB HY3.out (by rfl) 54 _ _ (by rfl) 0 (rfV { x with ident := v } t) (by rfl) (by rfl) (by kernel_rfl) (by show 0 + 27 ≤ 27; decide) (by rfl) ?_; intro w9 hb9 hg9; have HY9 := Lib.hid hb9; have HG9 := Lib.hid hg9; clear hb9 hg9))
  refine bodyPost_ret (results_box3 (vs := rfV { x with ident := v } t) rfl HY9.out (by rfl) (by rfl) (by rfl) _ Tryz.underlying54 rfl (by kernel_rfl)) rfl ?_
  have hgz := HG9.out.size
  have HB9 : Below w.heap.size w w9 := Below.trans HB3.out (below_of_grown' HG9.out (by omega) HB3.out.size)
  refine ⟨{ x with ident := v }, t, q, by rw [HRE.out]; rfl, goesRf.mono (goesRf.keep HR3.out HG9.out.size fun b hb hl => HG9.out.block b hl (fun e => by have := hb.2; injection e with e; omega)) (fun b hb _ => .inl hb.1), fun y rest h => ?_, by rw [rd_105]; exact at_bind HQ.out, HB9⟩
  rw [← HV.out]
  rw [rd_105] at h
  exact is_bind h

set_option maxHeartbeats 4000000 in
set_option maxRecDepth 100000 in
theorem rrd_m {S S2 : Nat → Prop} {A : Option Addr} {m c a : Nat} {bs : B} {x : Rf} {t : Tfs} {w : World} (hs : Sl S w A m c bs) (hm : m ≤ 140737488355328) (ha : a ≤ m) (hR : RfR S2 w x t) :
    Calls Tryz.prog 19 #[.agg (rfV x t).toArray, .int .u8 109, .slice A m c, .int .i64 (a : Int)] w fun e w' => RdP S2 w bs (readL 109 x (bs.drop a)) e w' := by
  have HR := Lib.hid (goesRf.mono (S' := fun b => S2 b ∧ b < w.heap.size) hR fun b h1 h2 => ⟨h1, h2⟩); clear hR
  have hcp := hs.cap
  have hcm := hs.capMax
  have hln := Lib.hid hs.len
  have HS := Lib.hid hs; clear hs
  obtain ⟨w1, hw1⟩ : ∃ w1, w1 = (w.alloc (.cells (rfV x t).toArray 54)).alloc (.cells #[.int .u8 0, .int .u32 0, .string ⟨#[]⟩, .int .u16 0, .int .i32 0, .int .i32 0, .int .i32 0, .int .u8 0, .string ⟨#[]⟩, .string ⟨#[]⟩, .string ⟨#[]⟩, .slice none 0 0, .string ⟨#[]⟩, .slice none 0 0, .int .i64 0, .string ⟨#[]⟩, .string ⟨#[]⟩, .string ⟨#[]⟩, .string ⟨#[]⟩, .int .u32 0, .string ⟨#[]⟩, .string ⟨#[]⟩, .string ⟨#[]⟩, .string ⟨#[]⟩, .slice none 0 0, .int .u32 0, .string ⟨#[]⟩] 54) := ⟨_, rfl⟩
  have b1 : Below w.heap.size w (w.alloc (.cells (rfV x t).toArray 54)) := (Below.refl _ _).alloc (Nat.le_refl _) _
  have hz0 : (w.alloc (.cells (rfV x t).toArray 54)).heap.size = w.heap.size + 1 := World.size_alloc _ _
  have hsz : w1.heap.size = w.heap.size + 1 + 1 := by rw [hw1]; simp
  have b2 : Below (w.alloc (.cells (rfV x t).toArray 54)).heap.size (w.alloc (.cells (rfV x t).toArray 54)) w1 := by rw [hw1]; exact (Below.refl _ _).alloc (Nat.le_refl _) _
  have HB1 : Hid (Below w.heap.size w w1) := Lib.hid (seqB b1 b2)
  have HX1 : Hid (Bx (fun b => b = w.heap.size) w1 w.heap.size (rfV x t)) := Lib.hid (Bx.after (Bx.alloc w (rfV x t).toArray 54 (S := fun b => b = w.heap.size) rfl rfl) b2)
  have HY1 : Hid (Bx (fun b => b = w.heap.size + 1) w1 (w.heap.size + 1) zeroRf) := Lib.hid (by rw [hw1]; exact Bx.alloc _ #[.int .u8 0, .int .u32 0, .string ⟨#[]⟩, .int .u16 0, .int .i32 0, .int .i32 0, .int .i32 0, .int .u8 0, .string ⟨#[]⟩, .string ⟨#[]⟩, .string ⟨#[]⟩, .slice none 0 0, .string ⟨#[]⟩, .slice none 0 0, .int .i64 0, .string ⟨#[]⟩, .string ⟨#[]⟩, .string ⟨#[]⟩, .string ⟨#[]⟩, .int .u32 0, .string ⟨#[]⟩, .string ⟨#[]⟩, .string ⟨#[]⟩, .string ⟨#[]⟩, .slice none 0 0, .int .u32 0, .string ⟨#[]⟩] 54 (X := w.heap.size + 1) (S := fun b => b = w.heap.size + 1) (by simp) (by simp))
  have HW := Lib.hid hw1; have HSZ := Lib.hid hsz
  clear hw1 b1 b2 hz0 hsz
  go_enter Tryz.func19, Tryz.ntmps19
  go_upto_region 1 with fail
  rw [show ((w.alloc (.cells (rfV x t).toArray 54)).alloc (.cells #[.int .u8 0, .int .u32 0, .string ⟨#[]⟩, .int .u16 0, .int .i32 0, .int .i32 0, .int .i32 0, .int .u8 0, .string ⟨#[]⟩, .string ⟨#[]⟩, .string ⟨#[]⟩, .slice none 0 0, .string ⟨#[]⟩, .slice none 0 0, .int .i64 0, .string ⟨#[]⟩, .string ⟨#[]⟩, .string ⟨#[]⟩, .string ⟨#[]⟩, .int .u32 0, .string ⟨#[]⟩, .string ⟨#[]⟩, .string ⟨#[]⟩, .string ⟨#[]⟩, .slice none 0 0, .int .u32 0, .string ⟨#[]⟩] 54)) = w1 from HW.out.symm]
  have hlx : w.heap.size < w1.heap.size := by have := HSZ.out; omega
  have hly : w.heap.size + 1 < w1.heap.size := by have := HSZ.out; omega
  have kf := HX1.out.c 13 _ rfl
  have ff := HX1.out.fr 13
  clear kf ff
  go_wp2_with fail
  refine (rgeti2_any (S := S) (a := a) (HS.out.after HB1.out) hm ha _ rfl).mono ?_
  rintro e w2 ⟨A2, n2, c2, q, rfl, har, hq, hb⟩
  have HAR := Lib.hid har; clear har
  have HQ := Lib.hid hq; clear hq
  have HB2 : Hid (Below w.heap.size w w2) := Lib.hid (Below.trans HB1.out (hb.mono (by have := HSZ.out; omega)))
  have HX2 := Lib.hid (goesBx.after HX1.out hb)
  have HY2 := Lib.hid (goesBx.after HY1.out hb)
  have hlx2 := HX2.out.lt
  have hly2 := HY2.out.lt
  clear hlx hly
  have HRE : Hid (rerr (readL 109 x (bs.drop a)) = rerr (getL (itemR 2) (bs.drop a))) := Lib.hid (by rw [rd_109, gi_multis, err_map]; exact err_bind)
  obtain ⟨er, her⟩ : ∃ er, rerr (getL (itemR 2) (bs.drop a)) = er := ⟨_, rfl⟩
  rw [her] at HRE ⊢
  clear her
  obtain ⟨v, hv⟩ : ∃ v, rval [] (getL multiR (bs.drop a)) = v := ⟨_, rfl⟩
  have HV := Lib.hid hv
  have HAR2 : Hid (Arr 5 (itemP (fun b => w1.heap.size ≤ b) w2) (fun b => w1.heap.size ≤ b) w2 A2 n2 c2 (v.map Thing.ofMulti)) := Lib.hid (by rw [← hv, ← val_map (List.map Thing.ofMulti) rfl _, ← gi_multis]; exact HAR.out)
  clear hv
  have kf := HX2.out.c 13 _ rfl
  have ff := HX2.out.fr 13
  go_upto_region 57 with fail
  clear kf ff
  have HX3 : Hid (Bx (fun b => b = w.heap.size) (w2.setCell ⟨w.heap.size, 13, none⟩ (.slice A2 n2 c2)) w.heap.size (rfV { x with support := v } { t with su := ⟨A2, n2, c2⟩ })) := Lib.hid (HX2.out.put 13 (.slice A2 n2 c2) (by show 13 < 27; decide))
  have HY3 : Hid (Bx (fun b => b = w.heap.size + 1) (w2.setCell ⟨w.heap.size, 13, none⟩ (.slice A2 n2 c2)) (w.heap.size + 1) zeroRf) := Lib.hid (goesBx.keep HY2.out (by simp) fun b hb hl => Below.heap_setCell _ ⟨w.heap.size, 13, none⟩ _ b (by show b ≠ w.heap.size; omega))
  have HB3 : Hid (Below w.heap.size w (w2.setCell ⟨w.heap.size, 13, none⟩ (.slice A2 n2 c2))) := Lib.hid (HB2.out.setCell (Nat.le_refl _) _)
  have HA3 : Hid (Arr 5 (itemP (fun b => w1.heap.size ≤ b ∧ b < w2.heap.size) (w2.setCell ⟨w.heap.size, 13, none⟩ (.slice A2 n2 c2))) (fun b => w1.heap.size ≤ b ∧ b < w2.heap.size) (w2.setCell ⟨w.heap.size, 13, none⟩ (.slice A2 n2 c2)) A2 n2 c2 (v.map Thing.ofMulti)) := Lib.hid (goesArrI.keep (goesArrI.mono (S' := fun b => w1.heap.size ≤ b ∧ b < w2.heap.size) HAR2.out fun b h1 h2 => ⟨h1, h2⟩) (by simp) fun b hb hl => Below.heap_setCell _ ⟨w.heap.size, 13, none⟩ _ b (by show b ≠ w.heap.size; have := HSZ.out; omega))
  have HR3 : Hid (RfR (fun b => (S2 b ∧ b < w.heap.size) ∨ w1.heap.size ≤ b) (w2.setCell ⟨w.heap.size, 13, none⟩ (.slice A2 n2 c2)) { x with support := v } { t with su := ⟨A2, n2, c2⟩ }) := Lib.hid ⟨goesArrI.mono (goesRf.after HR.out HB3.out).fa (fun b hb _ => .inl hb), goesArrI.mono HA3.out (fun b hb _ => .inr hb.1), goesArrI.mono (goesRf.after HR.out HB3.out).cg (fun b hb _ => .inl hb)⟩
  go_wp2_with (first | (refine wpList_loadB HX3.out (by rfl) 54 _ (by rfl) (by rfl) _ Tryz.underlying54 rfl (by kernel_rfl) ?_) | (refine wpList_storeB HY3.out (by rfl) 54 _ _ (by rfl) 0 (rfV { x with support := v } { t with su := ⟨A2, n2, c2⟩ }) (by rfl) (by rfl) (by kernel_rfl) (by show 0 + 27 ≤ 27; decide) (by rfl) ?_; intro w9 hb9 hg9; have HY9 := Lib.hid hb9; have HG9 := Lib.hid hg9; clear hb9 hg9))
  refine bodyPost_ret (results_box3 (vs := rfV { x with support := v } { t with su := ⟨A2, n2, c2⟩ }) rfl HY9.out (by rfl) (by rfl) (by rfl) _ Tryz.underlying54 rfl (by kernel_rfl)) rfl ?_
  have hgz := HG9.out.size
  have HB9 : Below w.heap.size w w9 := Below.trans HB3.out (below_of_grown' HG9.out (by omega) HB3.out.size)
  refine ⟨{ x with support := v }, { t with su := ⟨A2, n2, c2⟩ }, q, by rw [HRE.out]; rfl, goesRf.mono (goesRf.keep HR3.out HG9.out.size fun b hb hl => HG9.out.block b hl (fun e => by have := HSZ.out; injection e with e; rcases hb with hb | hb; have := hb.2; omega; omega)) (fun b hb hl => by have := HSZ.out; rcases hb with hb | hb; exact .inl hb.1; exact .inr (by omega)), fun y rest h => ?_, by rw [rd_109]; exact at_bind (at_map _ (gi_multis _ ▸ HQ.out)), HB9⟩
  rw [← HV.out]
  rw [rd_109] at h
  exact is_bind h

set_option maxHeartbeats 4000000 in
set_option maxRecDepth 100000 in
theorem rrd_v {S S2 : Nat → Prop} {A : Option Addr} {m c a : Nat} {bs : B} {x : Rf} {t : Tfs} {w : World} (hs : Sl S w A m c bs) (hm : m ≤ 140737488355328) (ha : a ≤ m) (hR : RfR S2 w x t) :
    Calls Tryz.prog 19 #[.agg (rfV x t).toArray, .int .u8 118, .slice A m c, .int .i64 (a : Int)] w fun e w' => RdP S2 w bs (readL 118 x (bs.drop a)) e w' := by
  have HR := Lib.hid (goesRf.mono (S' := fun b => S2 b ∧ b < w.heap.size) hR fun b h1 h2 => ⟨h1, h2⟩); clear hR
  have hcp := hs.cap
  have hcm := hs.capMax
  have hln := Lib.hid hs.len
  have HS := Lib.hid hs; clear hs
  obtain ⟨w1, hw1⟩ : ∃ w1, w1 = (w.alloc (.cells (rfV x t).toArray 54)).alloc (.cells #[.int .u8 0, .int .u32 0, .string ⟨#[]⟩, .int .u16 0, .int .i32 0, .int .i32 0, .int .i32 0, .int .u8 0, .string ⟨#[]⟩, .string ⟨#[]⟩, .string ⟨#[]⟩, .slice none 0 0, .string ⟨#[]⟩, .slice none 0 0, .int .i64 0, .string ⟨#[]⟩, .string ⟨#[]⟩, .string ⟨#[]⟩, .string ⟨#[]⟩, .int .u32 0, .string ⟨#[]⟩, .string ⟨#[]⟩, .string ⟨#[]⟩, .string ⟨#[]⟩, .slice none 0 0, .int .u32 0, .string ⟨#[]⟩] 54) := ⟨_, rfl⟩
  have b1 : Below w.heap.size w (w.alloc (.cells (rfV x t).toArray 54)) := (Below.refl _ _).alloc (Nat.le_refl _) _
  have hz0 : (w.alloc (.cells (rfV x t).toArray 54)).heap.size = w.heap.size + 1 := World.size_alloc _ _
  have hsz : w1.heap.size = w.heap.size + 1 + 1 := by rw [hw1]; simp
  have b2 : Below (w.alloc (.cells (rfV x t).toArray 54)).heap.size (w.alloc (.cells (rfV x t).toArray 54)) w1 := by rw [hw1]; exact (Below.refl _ _).alloc (Nat.le_refl _) _
  have HB1 : Hid (Below w.heap.size w w1) := Lib.hid (seqB b1 b2)
  have HX1 : Hid (Bx (fun b => b = w.heap.size) w1 w.heap.size (rfV x t)) := Lib.hid (Bx.after (Bx.alloc w (rfV x t).toArray 54 (S := fun b => b = w.heap.size) rfl rfl) b2)
  have HY1 : Hid (Bx (fun b => b = w.heap.size + 1) w1 (w.heap.size + 1) zeroRf) := Lib.hid (by rw [hw1]; exact Bx.alloc _ #[.int .u8 0, .int .u32 0, .string ⟨#[]⟩, .int .u16 0, .int .i32 0, .int .i32 0, .int .i32 0, .int .u8 0, .string ⟨#[]⟩, .string ⟨#[]⟩, .string ⟨#[]⟩, .slice none 0 0, .string ⟨#[]⟩, .slice none 0 0, .int .i64 0, .string ⟨#[]⟩, .string ⟨#[]⟩, .string ⟨#[]⟩, .string ⟨#[]⟩, .int .u32 0, .string ⟨#[]⟩, .string ⟨#[]⟩, .string ⟨#[]⟩, .string ⟨#[]⟩, .slice none 0 0, .int .u32 0, .string ⟨#[]⟩] 54 (X := w.heap.size + 1) (S := fun b => b = w.heap.size + 1) (by simp) (by simp))
  have HW := Lib.hid hw1; have HSZ := Lib.hid hsz
  clear hw1 b1 b2 hz0 hsz
  go_enter Tryz.func19, Tryz.ntmps19
  go_upto_region 1 with fail
  rw [show ((w.alloc (.cells (rfV x t).toArray 54)).alloc (.cells #[.int .u8 0, .int .u32 0, .string ⟨#[]⟩, .int .u16 0, .int .i32 0, .int .i32 0, .int .i32 0, .int .u8 0, .string ⟨#[]⟩, .string ⟨#[]⟩, .string ⟨#[]⟩, .slice none 0 0, .string ⟨#[]⟩, .slice none 0 0, .int .i64 0, .string ⟨#[]⟩, .string ⟨#[]⟩, .string ⟨#[]⟩, .string ⟨#[]⟩, .int .u32 0, .string ⟨#[]⟩, .string ⟨#[]⟩, .string ⟨#[]⟩, .string ⟨#[]⟩, .slice none 0 0, .int .u32 0, .string ⟨#[]⟩] 54)) = w1 from HW.out.symm]
  have hlx : w.heap.size < w1.heap.size := by have := HSZ.out; omega
  have hly : w.heap.size + 1 < w1.heap.size := by have := HSZ.out; omega
  go_wp2_with fail
  refine (rgetValue_any (S := S) (a := a) (HS.out.after HB1.out) hm ha _ rfl).mono ?_
  rintro e w2 ⟨q, rfl, hq, hb⟩
  have HQ := Lib.hid hq; clear hq
  have HB2 : Hid (Below w.heap.size w w2) := Lib.hid (Below.trans HB1.out (hb.mono (by have := HSZ.out; omega)))
  have HX2 := Lib.hid (goesBx.after HX1.out hb)
  have HY2 := Lib.hid (goesBx.after HY1.out hb)
  have hlx2 := HX2.out.lt
  have hly2 := HY2.out.lt
  clear hlx hly
  have HRE : Hid (rerr (readL 118 x (bs.drop a)) = rerr (getValue (bs.drop a))) := Lib.hid (by rw [rd_118]; exact err_bind)
  obtain ⟨er, her⟩ : ∃ er, rerr (getValue (bs.drop a)) = er := ⟨_, rfl⟩
  rw [her] at HRE ⊢
  clear her
  obtain ⟨v, hv⟩ : ∃ v, rval Val.none (getValue (bs.drop a)) = v := ⟨_, rfl⟩
  rw [hv]
  have HV := Lib.hid hv; clear hv
  go_upto_region 57 with (first | (refine wpList_storeB HX2.out (by rfl) 48 _ _ (by rfl) 14 [.int .i64 v.kind, .string (str v.bytes)] (by rfl) (by rfl) (by kernel_rfl) (by show 14 + 2 ≤ 27; decide) (by rfl) ?_; intro w3 hb3 hg3; have HX3' := Lib.hid hb3; have HG3 := Lib.hid hg3; clear hb3 hg3))
  have HX3 : Hid (Bx (fun b => b = w.heap.size) w3 w.heap.size (rfV { x with token := v } t)) := Lib.hid HX3'.out
  have HY3 : Hid (Bx (fun b => b = w.heap.size + 1) w3 (w.heap.size + 1) zeroRf) := Lib.hid (goesBx.keep HY2.out HG3.out.size fun b hb hl => HG3.out.block b hl (fun e => by injection e with e; omega))
  have HB3 : Hid (Below w.heap.size w w3) := Lib.hid (Below.trans HB2.out (below_of_grown' HG3.out (Nat.le_refl _) HB2.out.size))
  have HR3 : Hid (RfR (fun b => S2 b ∧ b < w.heap.size) w3 { x with token := v } t) := Lib.hid (⟨(goesRf.after HR.out HB3.out).fa, (goesRf.after HR.out HB3.out).su, (goesRf.after HR.out HB3.out).cg⟩)
  have hlx3 := HX3.out.lt
  have hly3 := HY3.out.lt
  go_wp2_with (first | (refine wpList_loadB HX3.out (by rfl) 54 _ (by rfl) (by rfl) _ Tryz.underlying54 rfl (by kernel_rfl) ?_) | (refine wpList_storeB HY3.out (by rfl) 54 _ _ (by rfl) 0 (rfV { x with token := v } t) (by rfl) (by rfl) (by kernel_rfl) (by show 0 + 27 ≤ 27; decide) (by rfl) ?_; intro w9 hb9 hg9; have HY9 := Lib.hid hb9; have HG9 := Lib.hid hg9; clear hb9 hg9))
  refine bodyPost_ret (results_box3 (vs := rfV { x with token := v } t) rfl HY9.out (by rfl) (by rfl) (by rfl) _ Tryz.underlying54 rfl (by kernel_rfl)) rfl ?_
  have hgz := HG9.out.size
  have HB9 : Below w.heap.size w w9 := Below.trans HB3.out (below_of_grown' HG9.out (by omega) HB3.out.size)
  refine ⟨{ x with token := v }, t, q, by rw [HRE.out]; rfl, goesRf.mono (goesRf.keep HR3.out HG9.out.size fun b hb hl => HG9.out.block b hl (fun e => by have := hb.2; injection e with e; omega)) (fun b hb _ => .inl hb.1), fun y rest h => ?_, by rw [rd_118]; exact at_bind HQ.out, HB9⟩
  rw [← HV.out]
  rw [rd_118] at h
  exact is_bind h

set_option maxHeartbeats 4000000 in
set_option maxRecDepth 100000 in
theorem rrd_E {S S2 : Nat → Prop} {A : Option Addr} {m c a : Nat} {bs : B} {x : Rf} {t : Tfs} {w : World} (hs : Sl S w A m c bs) (hm : m ≤ 140737488355328) (ha : a ≤ m) (hR : RfR S2 w x t) :
    Calls Tryz.prog 19 #[.agg (rfV x t).toArray, .int .u8 69, .slice A m c, .int .i64 (a : Int)] w fun e w' => RdP S2 w bs (readL 69 x (bs.drop a)) e w' := by
  have HR := Lib.hid (goesRf.mono (S' := fun b => S2 b ∧ b < w.heap.size) hR fun b h1 h2 => ⟨h1, h2⟩); clear hR
  have hcp := hs.cap
  have hcm := hs.capMax
  have hln := Lib.hid hs.len
  have HS := Lib.hid hs; clear hs
  obtain ⟨w1, hw1⟩ : ∃ w1, w1 = (w.alloc (.cells (rfV x t).toArray 54)).alloc (.cells #[.int .u8 0, .int .u32 0, .string ⟨#[]⟩, .int .u16 0, .int .i32 0, .int .i32 0, .int .i32 0, .int .u8 0, .string ⟨#[]⟩, .string ⟨#[]⟩, .string ⟨#[]⟩, .slice none 0 0, .string ⟨#[]⟩, .slice none 0 0, .int .i64 0, .string ⟨#[]⟩, .string ⟨#[]⟩, .string ⟨#[]⟩, .string ⟨#[]⟩, .int .u32 0, .string ⟨#[]⟩, .string ⟨#[]⟩, .string ⟨#[]⟩, .string ⟨#[]⟩, .slice none 0 0, .int .u32 0, .string ⟨#[]⟩] 54) := ⟨_, rfl⟩
  have b1 : Below w.heap.size w (w.alloc (.cells (rfV x t).toArray 54)) := (Below.refl _ _).alloc (Nat.le_refl _) _
  have hz0 : (w.alloc (.cells (rfV x t).toArray 54)).heap.size = w.heap.size + 1 := World.size_alloc _ _
  have hsz : w1.heap.size = w.heap.size + 1 + 1 := by rw [hw1]; simp
  have b2 : Below (w.alloc (.cells (rfV x t).toArray 54)).heap.size (w.alloc (.cells (rfV x t).toArray 54)) w1 := by rw [hw1]; exact (Below.refl _ _).alloc (Nat.le_refl _) _
  have HB1 : Hid (Below w.heap.size w w1) := Lib.hid (seqB b1 b2)
  have HX1 : Hid (Bx (fun b => b = w.heap.size) w1 w.heap.size (rfV x t)) := Lib.hid (Bx.after (Bx.alloc w (rfV x t).toArray 54 (S := fun b => b = w.heap.size) rfl rfl) b2)
  have HY1 : Hid (Bx (fun b => b = w.heap.size + 1) w1 (w.heap.size + 1) zeroRf) := Lib.hid (by rw [hw1]; exact Bx.alloc _ #[.int .u8 0, .int .u32 0, .string ⟨#[]⟩, .int .u16 0, .int .i32 0, .int .i32 0, .int .i32 0, .int .u8 0, .string ⟨#[]⟩, .string ⟨#[]⟩, .string ⟨#[]⟩, .slice none 0 0, .string ⟨#[]⟩, .slice none 0 0, .int .i64 0, .string ⟨#[]⟩, .string ⟨#[]⟩, .string ⟨#[]⟩, .string ⟨#[]⟩, .int .u32 0, .string ⟨#[]⟩, .string ⟨#[]⟩, .string ⟨#[]⟩, .string ⟨#[]⟩, .slice none 0 0, .int .u32 0, .string ⟨#[]⟩] 54 (X := w.heap.size + 1) (S := fun b => b = w.heap.size + 1) (by simp) (by simp))
  have HW := Lib.hid hw1; have HSZ := Lib.hid hsz
  clear hw1 b1 b2 hz0 hsz
  go_enter Tryz.func19, Tryz.ntmps19
  go_upto_region 1 with fail
  rw [show ((w.alloc (.cells (rfV x t).toArray 54)).alloc (.cells #[.int .u8 0, .int .u32 0, .string ⟨#[]⟩, .int .u16 0, .int .i32 0, .int .i32 0, .int .i32 0, .int .u8 0, .string ⟨#[]⟩, .string ⟨#[]⟩, .string ⟨#[]⟩, .slice none 0 0, .string ⟨#[]⟩, .slice none 0 0, .int .i64 0, .string ⟨#[]⟩, .string ⟨#[]⟩, .string ⟨#[]⟩, .string ⟨#[]⟩, .int .u32 0, .string ⟨#[]⟩, .string ⟨#[]⟩, .string ⟨#[]⟩, .string ⟨#[]⟩, .slice none 0 0, .int .u32 0, .string ⟨#[]⟩] 54)) = w1 from HW.out.symm]
  have hlx : w.heap.size < w1.heap.size := by have := HSZ.out; omega
  have hly : w.heap.size + 1 < w1.heap.size := by have := HSZ.out; omega
  go_wp2_with fail
  refine (rgetText_any (S := S) (a := a) (HS.out.after HB1.out) hm ha _ rfl).mono ?_
  rintro e w2 ⟨q, rfl, hq, rfl⟩
  obtain ⟨w2, hw2⟩ : ∃ w2, w2 = w1 := ⟨_, rfl⟩
  have hb : Below w1.heap.size w1 w2 := by rw [hw2]; exact Below.refl _ _
  rw [← hw2]
  clear hw2
  have HQ := Lib.hid hq; clear hq
  have HB2 : Hid (Below w.heap.size w w2) := Lib.hid (Below.trans HB1.out (hb.mono (by have := HSZ.out; omega)))
  have HX2 := Lib.hid (goesBx.after HX1.out hb)
  have HY2 := Lib.hid (goesBx.after HY1.out hb)
  have hlx2 := HX2.out.lt
  have hly2 := HY2.out.lt
  clear hlx hly
  have HRE : Hid (rerr (readL 69 x (bs.drop a)) = rerr (getText (bs.drop a))) := Lib.hid (by rw [rd_69]; exact err_bind)
  obtain ⟨er, her⟩ : ∃ er, rerr (getText (bs.drop a)) = er := ⟨_, rfl⟩
  rw [her] at HRE ⊢
  clear her
  obtain ⟨v, hv⟩ : ∃ v, rval [] (getText (bs.drop a)) = v := ⟨_, rfl⟩
  rw [hv]
  have HV := Lib.hid hv; clear hv
  have kf := HX2.out.c 16 _ rfl
  have ff := HX2.out.fr 16
  go_upto_region 57 with fail
  clear kf ff
  have HX3 : Hid (Bx (fun b => b = w.heap.size) (w2.setCell ⟨w.heap.size, 16, none⟩ (.string (str v))) w.heap.size (rfV { x with event := v } t)) := Lib.hid (HX2.out.put 16 (.string (str v)) (by show 16 < 27; decide))
  have HY3 : Hid (Bx (fun b => b = w.heap.size + 1) (w2.setCell ⟨w.heap.size, 16, none⟩ (.string (str v))) (w.heap.size + 1) zeroRf) := Lib.hid (goesBx.keep HY2.out (by simp) fun b hb hl => Below.heap_setCell _ ⟨w.heap.size, 16, none⟩ _ b (by show b ≠ w.heap.size; omega))
  have HB3 : Hid (Below w.heap.size w (w2.setCell ⟨w.heap.size, 16, none⟩ (.string (str v)))) := Lib.hid (HB2.out.setCell (Nat.le_refl _) _)
  have HR3 : Hid (RfR (fun b => S2 b ∧ b < w.heap.size) (w2.setCell ⟨w.heap.size, 16, none⟩ (.string (str v))) { x with event := v } t) := Lib.hid (⟨(goesRf.after HR.out HB3.out).fa, (goesRf.after HR.out HB3.out).su, (goesRf.after HR.out HB3.out).cg⟩)
  go_wp2_with (first | (refine wpList_loadB HX3.out (by rfl) 54 _ (by rfl) (by rfl) _ Tryz.underlying54 rfl (by kernel_rfl) ?_) | (refine wpList_storeB HY3.out (by rfl) 54 _ _ (by rfl) 0 (rfV { x with event := v } t) (by rfl) (by rfl) (by kernel_rfl) (by show 0 + 27 ≤ 27; decide) (by rfl) ?_; intro w9 hb9 hg9; have HY9 := Lib.hid hb9; have HG9 := Lib.hid hg9; clear hb9 hg9))
  refine bodyPost_ret (results_box3 (vs := rfV { x with event := v } t) rfl HY9.out (by rfl) (by rfl) (by rfl) _ Tryz.underlying54 rfl (by kernel_rfl)) rfl ?_
  have hgz := HG9.out.size
  have HB9 : Below w.heap.size w w9 := Below.trans HB3.out (below_of_grown' HG9.out (by omega) HB3.out.size)
  refine ⟨{ x with event := v }, t, q, by rw [HRE.out]; rfl, goesRf.mono (goesRf.keep HR3.out HG9.out.size fun b hb hl => HG9.out.block b hl (fun e => by have := hb.2; injection e with e; omega)) (fun b hb _ => .inl hb.1), fun y rest h => ?_, by rw [rd_69]; exact at_bind HQ.out, HB9⟩
  rw [← HV.out]
  rw [rd_69] at h
  exact is_bind h
end Go.Proofs.Sb

/- Walks over signalboxref09.read. Conditions: lengths up to 2^47. (written by gen_rye.py) -/
namespace Go.Proofs.Sb
open Go.RowKit _root_.Sb

set_option maxHeartbeats 4000000 in
set_option maxRecDepth 100000 in
theorem rrd_H {S S2 : Nat → Prop} {A : Option Addr} {m c a : Nat} {bs : B} {x : Rf} {t : Tfs} {w : World} (hs : Sl S w A m c bs) (hm : m ≤ 140737488355328) (ha : a ≤ m) (hR : RfR S2 w x t) :
    Calls Tryz.prog 19 #[.agg (rfV x t).toArray, .int .u8 72, .slice A m c, .int .i64 (a : Int)] w fun e w' => RdP S2 w bs (readL 72 x (bs.drop a)) e w' := by
  have HR := Lib.hid (goesRf.mono (S' := fun b => S2 b ∧ b < w.heap.size) hR fun b h1 h2 => ⟨h1, h2⟩); clear hR
  have hcp := hs.cap
  have hcm := hs.capMax
  have hln := Lib.hid hs.len
  have HS := Lib.hid hs; clear hs
  obtain ⟨w1, hw1⟩ : ∃ w1, w1 = (w.alloc (.cells (rfV x t).toArray 54)).alloc (.cells #[.int .u8 0, .int .u32 0, .string ⟨#[]⟩, .int .u16 0, .int .i32 0, .int .i32 0, .int .i32 0, .int .u8 0, .string ⟨#[]⟩, .string ⟨#[]⟩, .string ⟨#[]⟩, .slice none 0 0, .string ⟨#[]⟩, .slice none 0 0, .int .i64 0, .string ⟨#[]⟩, .string ⟨#[]⟩, .string ⟨#[]⟩, .string ⟨#[]⟩, .int .u32 0, .string ⟨#[]⟩, .string ⟨#[]⟩, .string ⟨#[]⟩, .string ⟨#[]⟩, .slice none 0 0, .int .u32 0, .string ⟨#[]⟩] 54) := ⟨_, rfl⟩
  have b1 : Below w.heap.size w (w.alloc (.cells (rfV x t).toArray 54)) := (Below.refl _ _).alloc (Nat.le_refl _) _
  have hz0 : (w.alloc (.cells (rfV x t).toArray 54)).heap.size = w.heap.size + 1 := World.size_alloc _ _
  have hsz : w1.heap.size = w.heap.size + 1 + 1 := by rw [hw1]; simp
  have b2 : Below (w.alloc (.cells (rfV x t).toArray 54)).heap.size (w.alloc (.cells (rfV x t).toArray 54)) w1 := by rw [hw1]; exact (Below.refl _ _).alloc (Nat.le_refl _) _
  have HB1 : Hid (Below w.heap.size w w1) := Lib.hid (seqB b1 b2)
  have HX1 : Hid (Bx (fun b => b = w.heap.size) w1 w.heap.size (rfV x t)) := Lib.hid (Bx.after (Bx.alloc w (rfV x t).toArray 54 (S := fun b => b = w.heap.size) rfl rfl) b2)
  have HY1 : Hid (Bx (fun b => b = w.heap.size + 1) w1 (w.heap.size + 1) zeroRf) := Lib.hid (by rw [hw1]; exact Bx.alloc _ #[.int .u8 0, .int .u32 0, .string ⟨#[]⟩, .int .u16 0, .int .i32 0, .int .i32 0, .int .i32 0, .int .u8 0, .string ⟨#[]⟩, .string ⟨#[]⟩, .string ⟨#[]⟩, .slice none 0 0, .string ⟨#[]⟩, .slice none 0 0, .int .i64 0, .string ⟨#[]⟩, .string ⟨#[]⟩, .string ⟨#[]⟩, .string ⟨#[]⟩, .int .u32 0, .string ⟨#[]⟩, .string ⟨#[]⟩, .string ⟨#[]⟩, .string ⟨#[]⟩, .slice none 0 0, .int .u32 0, .string ⟨#[]⟩] 54 (X := w.heap.size + 1) (S := fun b => b = w.heap.size + 1) (by simp) (by simp))
  have HW := Lib.hid hw1; have HSZ := Lib.hid hsz
  clear hw1 b1 b2 hz0 hsz
  go_enter Tryz.func19, Tryz.ntmps19
  go_upto_region 1 with fail
  rw [show ((w.alloc (.cells (rfV x t).toArray 54)).alloc (.cells #[.int .u8 0, .int .u32 0, .string ⟨#[]⟩, .int .u16 0, .int .i32 0, .int .i32 0, .int .i32 0, .int .u8 0, .string ⟨#[]⟩, .string ⟨#[]⟩, .string ⟨#[]⟩, .slice none 0 0, .string ⟨#[]⟩, .slice none 0 0, .int .i64 0, .string ⟨#[]⟩, .string ⟨#[]⟩, .string ⟨#[]⟩, .string ⟨#[]⟩, .int .u32 0, .string ⟨#[]⟩, .string ⟨#[]⟩, .string ⟨#[]⟩, .string ⟨#[]⟩, .slice none 0 0, .int .u32 0, .string ⟨#[]⟩] 54)) = w1 from HW.out.symm]
  have hlx : w.heap.size < w1.heap.size := by have := HSZ.out; omega
  have hly : w.heap.size + 1 < w1.heap.size := by have := HSZ.out; omega
  go_wp2_with fail
  refine (rgetText_any (S := S) (a := a) (HS.out.after HB1.out) hm ha _ rfl).mono ?_
  rintro e w2 ⟨q, rfl, hq, rfl⟩
  obtain ⟨w2, hw2⟩ : ∃ w2, w2 = w1 := ⟨_, rfl⟩
  have hb : Below w1.heap.size w1 w2 := by rw [hw2]; exact Below.refl _ _
  rw [← hw2]
  clear hw2
  have HQ := Lib.hid hq; clear hq
  have HB2 : Hid (Below w.heap.size w w2) := Lib.hid (Below.trans HB1.out (hb.mono (by have := HSZ.out; omega)))
  have HX2 := Lib.hid (goesBx.after HX1.out hb)
  have HY2 := Lib.hid (goesBx.after HY1.out hb)
  have hlx2 := HX2.out.lt
  have hly2 := HY2.out.lt
  clear hlx hly
  have HRE : Hid (rerr (readL 72 x (bs.drop a)) = rerr (getText (bs.drop a))) := Lib.hid (by rw [rd_72]; exact err_bind)
  obtain ⟨er, her⟩ : ∃ er, rerr (getText (bs.drop a)) = er := ⟨_, rfl⟩
  rw [her] at HRE ⊢
  clear her
  obtain ⟨v, hv⟩ : ∃ v, rval [] (getText (bs.drop a)) = v := ⟨_, rfl⟩
  rw [hv]
  have HV := Lib.hid hv; clear hv
  have kf := HX2.out.c 17 _ rfl
  have ff := HX2.out.fr 17
  go_upto_region 57 with fail
  clear kf ff
  have HX3 : Hid (Bx (fun b => b = w.heap.size) (w2.setCell ⟨w.heap.size, 17, none⟩ (.string (str v))) w.heap.size (rfV { x with what := v } t)) := Lib.hid (HX2.out.put 17 (.string (str v)) (by show 17 < 27; decide))
  have HY3 : Hid (Bx (fun b => b = w.heap.size + 1) (w2.setCell ⟨w.heap.size, 17, none⟩ (.string (str v))) (w.heap.size + 1) zeroRf) := Lib.hid (goesBx.keep HY2.out (by simp) fun b hb hl => Below.heap_setCell _ ⟨w.heap.size, 17, none⟩ _ b (by show b ≠ w.heap.size; omega))
  have HB3 : Hid (Below w.heap.size w (w2.setCell ⟨w.heap.size, 17, none⟩ (.string (str v)))) := Lib.hid (HB2.out.setCell (Nat.le_refl _) _)
  have HR3 : Hid (RfR (fun b => S2 b ∧ b < w.heap.size) (w2.setCell ⟨w.heap.size, 17, none⟩ (.string (str v))) { x with what := v } t) := Lib.hid (⟨(goesRf.after HR.out HB3.out).fa, (goesRf.after HR.out HB3.out).su, (goesRf.after HR.out HB3.out).cg⟩)
  go_wp2_with (first | (refine wpList_loadB HX3.out (by rfl) 54 _ (by rfl) (by rfl) _ Tryz.underlying54 rfl (by kernel_rfl) ?_) | (refine wpList_storeB HY3.out (by rfl) 54 _ _ (by rfl) 0 (rfV { x with what := v } t) (by rfl) (by rfl) (by kernel_rfl) (by show 0 + 27 ≤ 27; decide) (by rfl) ?_; intro w9 hb9 hg9; have HY9 := Lib.hid hb9; have HG9 := Lib.hid hg9; clear hb9 hg9))
  refine bodyPost_ret (results_box3 (vs := rfV { x with what := v } t) rfl HY9.out (by rfl) (by rfl) (by rfl) _ Tryz.underlying54 rfl (by kernel_rfl)) rfl ?_
  have hgz := HG9.out.size
  have HB9 : Below w.heap.size w w9 := Below.trans HB3.out (below_of_grown' HG9.out (by omega) HB3.out.size)
  refine ⟨{ x with what := v }, t, q, by rw [HRE.out]; rfl, goesRf.mono (goesRf.keep HR3.out HG9.out.size fun b hb hl => HG9.out.block b hl (fun e => by have := hb.2; injection e with e; omega)) (fun b hb _ => .inl hb.1), fun y rest h => ?_, by rw [rd_72]; exact at_bind HQ.out, HB9⟩
  rw [← HV.out]
  rw [rd_72] at h
  exact is_bind h

set_option maxHeartbeats 4000000 in
set_option maxRecDepth 100000 in
theorem rrd_A {S S2 : Nat → Prop} {A : Option Addr} {m c a : Nat} {bs : B} {x : Rf} {t : Tfs} {w : World} (hs : Sl S w A m c bs) (hm : m ≤ 140737488355328) (ha : a ≤ m) (hR : RfR S2 w x t) :
    Calls Tryz.prog 19 #[.agg (rfV x t).toArray, .int .u8 65, .slice A m c, .int .i64 (a : Int)] w fun e w' => RdP S2 w bs (readL 65 x (bs.drop a)) e w' := by
  have HR := Lib.hid (goesRf.mono (S' := fun b => S2 b ∧ b < w.heap.size) hR fun b h1 h2 => ⟨h1, h2⟩); clear hR
  have hcp := hs.cap
  have hcm := hs.capMax
  have hln := Lib.hid hs.len
  have HS := Lib.hid hs; clear hs
  obtain ⟨w1, hw1⟩ : ∃ w1, w1 = (w.alloc (.cells (rfV x t).toArray 54)).alloc (.cells #[.int .u8 0, .int .u32 0, .string ⟨#[]⟩, .int .u16 0, .int .i32 0, .int .i32 0, .int .i32 0, .int .u8 0, .string ⟨#[]⟩, .string ⟨#[]⟩, .string ⟨#[]⟩, .slice none 0 0, .string ⟨#[]⟩, .slice none 0 0, .int .i64 0, .string ⟨#[]⟩, .string ⟨#[]⟩, .string ⟨#[]⟩, .string ⟨#[]⟩, .int .u32 0, .string ⟨#[]⟩, .string ⟨#[]⟩, .string ⟨#[]⟩, .string ⟨#[]⟩, .slice none 0 0, .int .u32 0, .string ⟨#[]⟩] 54) := ⟨_, rfl⟩
  have b1 : Below w.heap.size w (w.alloc (.cells (rfV x t).toArray 54)) := (Below.refl _ _).alloc (Nat.le_refl _) _
  have hz0 : (w.alloc (.cells (rfV x t).toArray 54)).heap.size = w.heap.size + 1 := World.size_alloc _ _
  have hsz : w1.heap.size = w.heap.size + 1 + 1 := by rw [hw1]; simp
  have b2 : Below (w.alloc (.cells (rfV x t).toArray 54)).heap.size (w.alloc (.cells (rfV x t).toArray 54)) w1 := by rw [hw1]; exact (Below.refl _ _).alloc (Nat.le_refl _) _
  have HB1 : Hid (Below w.heap.size w w1) := Lib.hid (seqB b1 b2)
  have HX1 : Hid (Bx (fun b => b = w.heap.size) w1 w.heap.size (rfV x t)) := Lib.hid (Bx.after (Bx.alloc w (rfV x t).toArray 54 (S := fun b => b = w.heap.size) rfl rfl) b2)
  have HY1 : Hid (Bx (fun b => b = w.heap.size + 1) w1 (w.heap.size + 1) zeroRf) := Lib.hid (by rw [hw1]; exact Bx.alloc _ #[.int .u8 0, .int .u32 0, .string ⟨#[]⟩, .int .u16 0, .int .i32 0, .int .i32 0, .int .i32 0, .int .u8 0, .string ⟨#[]⟩, .string ⟨#[]⟩, .string ⟨#[]⟩, .slice none 0 0, .string ⟨#[]⟩, .slice none 0 0, .int .i64 0, .string ⟨#[]⟩, .string ⟨#[]⟩, .string ⟨#[]⟩, .string ⟨#[]⟩, .int .u32 0, .string ⟨#[]⟩, .string ⟨#[]⟩, .string ⟨#[]⟩, .string ⟨#[]⟩, .slice none 0 0, .int .u32 0, .string ⟨#[]⟩] 54 (X := w.heap.size + 1) (S := fun b => b = w.heap.size + 1) (by simp) (by simp))
  have HW := Lib.hid hw1; have HSZ := Lib.hid hsz
  clear hw1 b1 b2 hz0 hsz
  go_enter Tryz.func19, Tryz.ntmps19
  go_upto_region 1 with fail
  rw [show ((w.alloc (.cells (rfV x t).toArray 54)).alloc (.cells #[.int .u8 0, .int .u32 0, .string ⟨#[]⟩, .int .u16 0, .int .i32 0, .int .i32 0, .int .i32 0, .int .u8 0, .string ⟨#[]⟩, .string ⟨#[]⟩, .string ⟨#[]⟩, .slice none 0 0, .string ⟨#[]⟩, .slice none 0 0, .int .i64 0, .string ⟨#[]⟩, .string ⟨#[]⟩, .string ⟨#[]⟩, .string ⟨#[]⟩, .int .u32 0, .string ⟨#[]⟩, .string ⟨#[]⟩, .string ⟨#[]⟩, .string ⟨#[]⟩, .slice none 0 0, .int .u32 0, .string ⟨#[]⟩] 54)) = w1 from HW.out.symm]
  have hlx : w.heap.size < w1.heap.size := by have := HSZ.out; omega
  have hly : w.heap.size + 1 < w1.heap.size := by have := HSZ.out; omega
  go_wp2_with fail
  refine (rgetInet_any (S := S) (a := a) (HS.out.after HB1.out) hm ha _ rfl).mono ?_
  rintro e w2 ⟨q, rfl, hq, hb⟩
  have HQ := Lib.hid hq; clear hq
  have HB2 : Hid (Below w.heap.size w w2) := Lib.hid (Below.trans HB1.out (hb.mono (by have := HSZ.out; omega)))
  have HX2 := Lib.hid (goesBx.after HX1.out hb)
  have HY2 := Lib.hid (goesBx.after HY1.out hb)
  have hlx2 := HX2.out.lt
  have hly2 := HY2.out.lt
  clear hlx hly
  have HRE : Hid (rerr (readL 65 x (bs.drop a)) = rerr (getInet (bs.drop a))) := Lib.hid (by rw [rd_65]; exact err_bind)
  obtain ⟨er, her⟩ : ∃ er, rerr (getInet (bs.drop a)) = er := ⟨_, rfl⟩
  rw [her] at HRE ⊢
  clear her
  obtain ⟨v, hv⟩ : ∃ v, rval Adr.none (getInet (bs.drop a)) = v := ⟨_, rfl⟩
  rw [hv]
  have HV := Lib.hid hv; clear hv
  go_upto_region 57 with (first | (refine wpList_storeB HX2.out (by rfl) 50 _ _ (by rfl) 18 [.string (str v.addr), .int .u32 ((v.port : Nat) : Int)] (by rfl) (by rfl) (by kernel_rfl) (by show 18 + 2 ≤ 27; decide) (by rfl) ?_; intro w3 hb3 hg3; have HX3' := Lib.hid hb3; have HG3 := Lib.hid hg3; clear hb3 hg3))
  have HX3 : Hid (Bx (fun b => b = w.heap.size) w3 w.heap.size (rfV { x with addr := v } t)) := Lib.hid HX3'.out
  have HY3 : Hid (Bx (fun b => b = w.heap.size + 1) w3 (w.heap.size + 1) zeroRf) := Lib.hid (goesBx.keep HY2.out HG3.out.size fun b hb hl => HG3.out.block b hl (fun e => by injection e with e; omega))
  have HB3 : Hid (Below w.heap.size w w3) := Lib.hid (Below.trans HB2.out (below_of_grown' HG3.out (Nat.le_refl _) HB2.out.size))
  have HR3 : Hid (RfR (fun b => S2 b ∧ b < w.heap.size) w3 { x with addr := v } t) := Lib.hid (⟨(goesRf.after HR.out HB3.out).fa, (goesRf.after HR.out HB3.out).su, (goesRf.after HR.out HB3.out).cg⟩)
  have hlx3 := HX3.out.lt
  have hly3 := HY3.out.lt
  go_wp2_with (first | (refine wpList_loadB HX3.out (by rfl) 54 _ (by rfl) (by rfl) _ Tryz.underlying54 rfl (by kernel_rfl) ?_) | (refine wpList_storeB HY3.out (by rfl) 54 _ _ (by rfl) 0 (rfV { x with addr := v } t) (by rfl) (by rfl) (by kernel_rfl) (by show 0 + 27 ≤ 27; decide) (by rfl) ?_; intro w9 hb9 hg9; have HY9 := Lib.hid hb9; have HG9 := Lib.hid hg9; clear hb9 hg9))
  refine bodyPost_ret (results_box3 (vs := rfV { x with addr := v } t) rfl HY9.out (by rfl) (by rfl) (by rfl) _ Tryz.underlying54 rfl (by kernel_rfl)) rfl ?_
  have hgz := HG9.out.size
  have HB9 : Below w.heap.size w w9 := Below.trans HB3.out (below_of_grown' HG9.out (by omega) HB3.out.size)
  refine ⟨{ x with addr := v }, t, q, by rw [HRE.out]; rfl, goesRf.mono (goesRf.keep HR3.out HG9.out.size fun b hb hl => HG9.out.block b hl (fun e => by have := hb.2; injection e with e; omega)) (fun b hb _ => .inl hb.1), fun y rest h => ?_, by rw [rd_65]; exact at_bind HQ.out, HB9⟩
  rw [← HV.out]
  rw [rd_65] at h
  exact is_bind h

set_option maxHeartbeats 4000000 in
set_option maxRecDepth 100000 in
theorem rrd_R {S S2 : Nat → Prop} {A : Option Addr} {m c a : Nat} {bs : B} {x : Rf} {t : Tfs} {w : World} (hs : Sl S w A m c bs) (hm : m ≤ 140737488355328) (ha : a ≤ m) (hR : RfR S2 w x t) :
    Calls Tryz.prog 19 #[.agg (rfV x t).toArray, .int .u8 82, .slice A m c, .int .i64 (a : Int)] w fun e w' => RdP S2 w bs (readL 82 x (bs.drop a)) e w' := by
  have HR := Lib.hid (goesRf.mono (S' := fun b => S2 b ∧ b < w.heap.size) hR fun b h1 h2 => ⟨h1, h2⟩); clear hR
  have hcp := hs.cap
  have hcm := hs.capMax
  have hln := Lib.hid hs.len
  have HS := Lib.hid hs; clear hs
  obtain ⟨w1, hw1⟩ : ∃ w1, w1 = (w.alloc (.cells (rfV x t).toArray 54)).alloc (.cells #[.int .u8 0, .int .u32 0, .string ⟨#[]⟩, .int .u16 0, .int .i32 0, .int .i32 0, .int .i32 0, .int .u8 0, .string ⟨#[]⟩, .string ⟨#[]⟩, .string ⟨#[]⟩, .slice none 0 0, .string ⟨#[]⟩, .slice none 0 0, .int .i64 0, .string ⟨#[]⟩, .string ⟨#[]⟩, .string ⟨#[]⟩, .string ⟨#[]⟩, .int .u32 0, .string ⟨#[]⟩, .string ⟨#[]⟩, .string ⟨#[]⟩, .string ⟨#[]⟩, .slice none 0 0, .int .u32 0, .string ⟨#[]⟩] 54) := ⟨_, rfl⟩
  have b1 : Below w.heap.size w (w.alloc (.cells (rfV x t).toArray 54)) := (Below.refl _ _).alloc (Nat.le_refl _) _
  have hz0 : (w.alloc (.cells (rfV x t).toArray 54)).heap.size = w.heap.size + 1 := World.size_alloc _ _
  have hsz : w1.heap.size = w.heap.size + 1 + 1 := by rw [hw1]; simp
  have b2 : Below (w.alloc (.cells (rfV x t).toArray 54)).heap.size (w.alloc (.cells (rfV x t).toArray 54)) w1 := by rw [hw1]; exact (Below.refl _ _).alloc (Nat.le_refl _) _
  have HB1 : Hid (Below w.heap.size w w1) := Lib.hid (seqB b1 b2)
  have HX1 : Hid (Bx (fun b => b = w.heap.size) w1 w.heap.size (rfV x t)) := Lib.hid (Bx.after (Bx.alloc w (rfV x t).toArray 54 (S := fun b => b = w.heap.size) rfl rfl) b2)
  have HY1 : Hid (Bx (fun b => b = w.heap.size + 1) w1 (w.heap.size + 1) zeroRf) := Lib.hid (by rw [hw1]; exact Bx.alloc _ #[.int .u8 0, .int .u32 0, .string ⟨#[]⟩, .int .u16 0, .int .i32 0, .int .i32 0, .int .i32 0, .int .u8 0, .string ⟨#[]⟩, .string ⟨#[]⟩, .string ⟨#[]⟩, .slice none 0 0, .string ⟨#[]⟩, .slice none 0 0, .int .i64 0, .string ⟨#[]⟩, .string ⟨#[]⟩, .string ⟨#[]⟩, .string ⟨#[]⟩, .int .u32 0, .string ⟨#[]⟩, .string ⟨#[]⟩, .string ⟨#[]⟩, .string ⟨#[]⟩, .slice none 0 0, .int .u32 0, .string ⟨#[]⟩] 54 (X := w.heap.size + 1) (S := fun b => b = w.heap.size + 1) (by simp) (by simp))
  have HW := Lib.hid hw1; have HSZ := Lib.hid hsz
  clear hw1 b1 b2 hz0 hsz
  go_enter Tryz.func19, Tryz.ntmps19
  go_upto_region 1 with fail
  rw [show ((w.alloc (.cells (rfV x t).toArray 54)).alloc (.cells #[.int .u8 0, .int .u32 0, .string ⟨#[]⟩, .int .u16 0, .int .i32 0, .int .i32 0, .int .i32 0, .int .u8 0, .string ⟨#[]⟩, .string ⟨#[]⟩, .string ⟨#[]⟩, .slice none 0 0, .string ⟨#[]⟩, .slice none 0 0, .int .i64 0, .string ⟨#[]⟩, .string ⟨#[]⟩, .string ⟨#[]⟩, .string ⟨#[]⟩, .int .u32 0, .string ⟨#[]⟩, .string ⟨#[]⟩, .string ⟨#[]⟩, .string ⟨#[]⟩, .slice none 0 0, .int .u32 0, .string ⟨#[]⟩] 54)) = w1 from HW.out.symm]
  have hlx : w.heap.size < w1.heap.size := by have := HSZ.out; omega
  have hly : w.heap.size + 1 < w1.heap.size := by have := HSZ.out; omega
  have hcut := run_cut A m c a .i64 ha
  have hcv := conv_sl ((HS.out.after HB1.out).cut a ha)
  have k26 := HX1.out.c 26 _ rfl
  have f26 := HX1.out.fr 26
  go_upto_region 57 with fail
  have HX3 : Hid (Bx (fun b => b = w.heap.size) (w1.setCell ⟨w.heap.size, 26, none⟩ (.string (str (bs.drop a)))) w.heap.size (rfV { x with rest := bs.drop a } t)) := Lib.hid (HX1.out.put 26 (.string (str (bs.drop a))) (by show 26 < 27; decide))
  have HY3 : Hid (Bx (fun b => b = w.heap.size + 1) (w1.setCell ⟨w.heap.size, 26, none⟩ (.string (str (bs.drop a)))) (w.heap.size + 1) zeroRf) := Lib.hid (goesBx.keep HY1.out (by simp) fun b hb hl => Below.heap_setCell _ ⟨w.heap.size, 26, none⟩ _ b (by show b ≠ w.heap.size; omega))
  have HB3 : Hid (Below w.heap.size w (w1.setCell ⟨w.heap.size, 26, none⟩ (.string (str (bs.drop a))))) := Lib.hid (HB1.out.setCell (Nat.le_refl _) _)
  have HR3 : Hid (RfR (fun b => S2 b ∧ b < w.heap.size) (w1.setCell ⟨w.heap.size, 26, none⟩ (.string (str (bs.drop a)))) { x with rest := bs.drop a } t) := Lib.hid (⟨(goesRf.after HR.out HB3.out).fa, (goesRf.after HR.out HB3.out).su, (goesRf.after HR.out HB3.out).cg⟩)
  go_wp2_with (first | (refine wpList_loadB HX3.out (by rfl) 54 _ (by rfl) (by rfl) _ Tryz.underlying54 rfl (by kernel_rfl) ?_) | (refine wpList_storeB HY3.out (by rfl) 54 _ _ (by rfl) 0 (rfV { x with rest := bs.drop a } t) (by rfl) (by rfl) (by kernel_rfl) (by show 0 + 27 ≤ 27; decide) (by rfl) ?_; intro w9 hb9 hg9; have HY9 := Lib.hid hb9; have HG9 := Lib.hid hg9; clear hb9 hg9))
  refine bodyPost_ret (results_box3 (vs := rfV { x with rest := bs.drop a } t) rfl HY9.out (by rfl) (by rfl) (by rfl) _ Tryz.underlying54 rfl (by kernel_rfl)) rfl ?_
  have hgz := HG9.out.size
  have HB9 : Below w.heap.size w w9 := Below.trans HB3.out (below_of_grown' HG9.out (by omega) HB3.out.size)
  refine ⟨{ x with rest := bs.drop a }, t, m, rfl, goesRf.mono (goesRf.keep HR3.out HG9.out.size fun b hb hl => HG9.out.block b hl (fun e => by have := hb.2; injection e with e; omega)) (fun b hb _ => .inl hb.1), fun y rest h => ?_, ?_, HB9⟩
  · injection h with h; injection h with h _; exact h.symm
  · exact AtR.ok (by rw [hln.out]; exact Nat.le_refl _) (by rw [hln.out, List.drop_length])

set_option maxHeartbeats 4000000 in
set_option maxRecDepth 100000 in
theorem rrd_W {S S2 : Nat → Prop} {A : Option Addr} {m c a : Nat} {bs : B} {x : Rf} {t : Tfs} {w : World} (hs : Sl S w A m c bs) (hm : m ≤ 140737488355328) (ha : a ≤ m) (hR : RfR S2 w x t) :
    Calls Tryz.prog 19 #[.agg (rfV x t).toArray, .int .u8 87, .slice A m c, .int .i64 (a : Int)] w fun e w' => RdP S2 w bs (readL 87 x (bs.drop a)) e w' := by
  have HR := Lib.hid (goesRf.mono (S' := fun b => S2 b ∧ b < w.heap.size) hR fun b h1 h2 => ⟨h1, h2⟩); clear hR
  have hcp := hs.cap
  have hcm := hs.capMax
  have hln := Lib.hid hs.len
  have HS := Lib.hid hs; clear hs
  obtain ⟨w1, hw1⟩ : ∃ w1, w1 = (w.alloc (.cells (rfV x t).toArray 54)).alloc (.cells #[.int .u8 0, .int .u32 0, .string ⟨#[]⟩, .int .u16 0, .int .i32 0, .int .i32 0, .int .i32 0, .int .u8 0, .string ⟨#[]⟩, .string ⟨#[]⟩, .string ⟨#[]⟩, .slice none 0 0, .string ⟨#[]⟩, .slice none 0 0, .int .i64 0, .string ⟨#[]⟩, .string ⟨#[]⟩, .string ⟨#[]⟩, .string ⟨#[]⟩, .int .u32 0, .string ⟨#[]⟩, .string ⟨#[]⟩, .string ⟨#[]⟩, .string ⟨#[]⟩, .slice none 0 0, .int .u32 0, .string ⟨#[]⟩] 54) := ⟨_, rfl⟩
  have b1 : Below w.heap.size w (w.alloc (.cells (rfV x t).toArray 54)) := (Below.refl _ _).alloc (Nat.le_refl _) _
  have hz0 : (w.alloc (.cells (rfV x t).toArray 54)).heap.size = w.heap.size + 1 := World.size_alloc _ _
  have hsz : w1.heap.size = w.heap.size + 1 + 1 := by rw [hw1]; simp
  have b2 : Below (w.alloc (.cells (rfV x t).toArray 54)).heap.size (w.alloc (.cells (rfV x t).toArray 54)) w1 := by rw [hw1]; exact (Below.refl _ _).alloc (Nat.le_refl _) _
  have HB1 : Hid (Below w.heap.size w w1) := Lib.hid (seqB b1 b2)
  have HX1 : Hid (Bx (fun b => b = w.heap.size) w1 w.heap.size (rfV x t)) := Lib.hid (Bx.after (Bx.alloc w (rfV x t).toArray 54 (S := fun b => b = w.heap.size) rfl rfl) b2)
  have HY1 : Hid (Bx (fun b => b = w.heap.size + 1) w1 (w.heap.size + 1) zeroRf) := Lib.hid (by rw [hw1]; exact Bx.alloc _ #[.int .u8 0, .int .u32 0, .string ⟨#[]⟩, .int .u16 0, .int .i32 0, .int .i32 0, .int .i32 0, .int .u8 0, .string ⟨#[]⟩, .string ⟨#[]⟩, .string ⟨#[]⟩, .slice none 0 0, .string ⟨#[]⟩, .slice none 0 0, .int .i64 0, .string ⟨#[]⟩, .string ⟨#[]⟩, .string ⟨#[]⟩, .string ⟨#[]⟩, .int .u32 0, .string ⟨#[]⟩, .string ⟨#[]⟩, .string ⟨#[]⟩, .string ⟨#[]⟩, .slice none 0 0, .int .u32 0, .string ⟨#[]⟩] 54 (X := w.heap.size + 1) (S := fun b => b = w.heap.size + 1) (by simp) (by simp))
  have HW := Lib.hid hw1; have HSZ := Lib.hid hsz
  clear hw1 b1 b2 hz0 hsz
  go_enter Tryz.func19, Tryz.ntmps19
  go_upto_region 1 with fail
  rw [show ((w.alloc (.cells (rfV x t).toArray 54)).alloc (.cells #[.int .u8 0, .int .u32 0, .string ⟨#[]⟩, .int .u16 0, .int .i32 0, .int .i32 0, .int .i32 0, .int .u8 0, .string ⟨#[]⟩, .string ⟨#[]⟩, .string ⟨#[]⟩, .slice none 0 0, .string ⟨#[]⟩, .slice none 0 0, .int .i64 0, .string ⟨#[]⟩, .string ⟨#[]⟩, .string ⟨#[]⟩, .string ⟨#[]⟩, .int .u32 0, .string ⟨#[]⟩, .string ⟨#[]⟩, .string ⟨#[]⟩, .string ⟨#[]⟩, .slice none 0 0, .int .u32 0, .string ⟨#[]⟩] 54)) = w1 from HW.out.symm]
  have hlx : w.heap.size < w1.heap.size := by have := HSZ.out; omega
  have hly : w.heap.size + 1 < w1.heap.size := by have := HSZ.out; omega
  go_wp2_with fail
  refine (rgetText_any (S := S) (a := a) (HS.out.after HB1.out) hm ha _ rfl).mono ?_
  rintro e w2 ⟨q, rfl, hq, rfl⟩
  obtain ⟨w2, hw2⟩ : ∃ w2, w2 = w1 := ⟨_, rfl⟩
  have hb : Below w1.heap.size w1 w2 := by rw [hw2]; exact Below.refl _ _
  rw [← hw2]
  clear hw2
  have HQ := Lib.hid hq; clear hq
  have HB2 : Hid (Below w.heap.size w w2) := Lib.hid (Below.trans HB1.out (hb.mono (by have := HSZ.out; omega)))
  have HX2 := Lib.hid (goesBx.after HX1.out hb)
  have HY2 := Lib.hid (goesBx.after HY1.out hb)
  have hlx2 := HX2.out.lt
  have hly2 := HY2.out.lt
  clear hlx hly
  have HRE : Hid (rerr (readL 87 x (bs.drop a)) = rerr (getText (bs.drop a))) := Lib.hid (by rw [rd_87]; exact err_bind)
  obtain ⟨er, her⟩ : ∃ er, rerr (getText (bs.drop a)) = er := ⟨_, rfl⟩
  rw [her] at HRE ⊢
  clear her
  obtain ⟨v, hv⟩ : ∃ v, rval [] (getText (bs.drop a)) = v := ⟨_, rfl⟩
  rw [hv]
  have HV := Lib.hid hv; clear hv
  have kf := HX2.out.c 20 _ rfl
  have ff := HX2.out.fr 20
  go_upto_region 57 with fail
  clear kf ff
  have HX3 : Hid (Bx (fun b => b = w.heap.size) (w2.setCell ⟨w.heap.size, 20, none⟩ (.string (str v))) w.heap.size (rfV { x with change := { x.change with what := v } } t)) := Lib.hid (HX2.out.put 20 (.string (str v)) (by show 20 < 27; decide))
  have HY3 : Hid (Bx (fun b => b = w.heap.size + 1) (w2.setCell ⟨w.heap.size, 20, none⟩ (.string (str v))) (w.heap.size + 1) zeroRf) := Lib.hid (goesBx.keep HY2.out (by simp) fun b hb hl => Below.heap_setCell _ ⟨w.heap.size, 20, none⟩ _ b (by show b ≠ w.heap.size; omega))
  have HB3 : Hid (Below w.heap.size w (w2.setCell ⟨w.heap.size, 20, none⟩ (.string (str v)))) := Lib.hid (HB2.out.setCell (Nat.le_refl _) _)
  have HR3 : Hid (RfR (fun b => S2 b ∧ b < w.heap.size) (w2.setCell ⟨w.heap.size, 20, none⟩ (.string (str v))) { x with change := { x.change with what := v } } t) := Lib.hid (⟨(goesRf.after HR.out HB3.out).fa, (goesRf.after HR.out HB3.out).su, (goesRf.after HR.out HB3.out).cg⟩)
  go_wp2_with (first | (refine wpList_loadB HX3.out (by rfl) 54 _ (by rfl) (by rfl) _ Tryz.underlying54 rfl (by kernel_rfl) ?_) | (refine wpList_storeB HY3.out (by rfl) 54 _ _ (by rfl) 0 (rfV { x with change := { x.change with what := v } } t) (by rfl) (by rfl) (by kernel_rfl) (by show 0 + 27 ≤ 27; decide) (by rfl) ?_; intro w9 hb9 hg9; have HY9 := Lib.hid hb9; have HG9 := Lib.hid hg9; clear hb9 hg9))
  refine bodyPost_ret (results_box3 (vs := rfV { x with change := { x.change with what := v } } t) rfl HY9.out (by rfl) (by rfl) (by rfl) _ Tryz.underlying54 rfl (by kernel_rfl)) rfl ?_
  have hgz := HG9.out.size
  have HB9 : Below w.heap.size w w9 := Below.trans HB3.out (below_of_grown' HG9.out (by omega) HB3.out.size)
  refine ⟨{ x with change := { x.change with what := v } }, t, q, by rw [HRE.out]; rfl, goesRf.mono (goesRf.keep HR3.out HG9.out.size fun b hb hl => HG9.out.block b hl (fun e => by have := hb.2; injection e with e; omega)) (fun b hb _ => .inl hb.1), fun y rest h => ?_, by rw [rd_87]; exact at_bind HQ.out, HB9⟩
  rw [← HV.out]
  rw [rd_87] at h
  exact is_bind h

set_option maxHeartbeats 4000000 in
set_option maxRecDepth 100000 in
theorem rrd_T {S S2 : Nat → Prop} {A : Option Addr} {m c a : Nat} {bs : B} {x : Rf} {t : Tfs} {w : World} (hs : Sl S w A m c bs) (hm : m ≤ 140737488355328) (ha : a ≤ m) (hR : RfR S2 w x t) :
    Calls Tryz.prog 19 #[.agg (rfV x t).toArray, .int .u8 84, .slice A m c, .int .i64 (a : Int)] w fun e w' => RdP S2 w bs (readL 84 x (bs.drop a)) e w' := by
  have HR := Lib.hid (goesRf.mono (S' := fun b => S2 b ∧ b < w.heap.size) hR fun b h1 h2 => ⟨h1, h2⟩); clear hR
  have hcp := hs.cap
  have hcm := hs.capMax
  have hln := Lib.hid hs.len
  have HS := Lib.hid hs; clear hs
  obtain ⟨w1, hw1⟩ : ∃ w1, w1 = (w.alloc (.cells (rfV x t).toArray 54)).alloc (.cells #[.int .u8 0, .int .u32 0, .string ⟨#[]⟩, .int .u16 0, .int .i32 0, .int .i32 0, .int .i32 0, .int .u8 0, .string ⟨#[]⟩, .string ⟨#[]⟩, .string ⟨#[]⟩, .slice none 0 0, .string ⟨#[]⟩, .slice none 0 0, .int .i64 0, .string ⟨#[]⟩, .string ⟨#[]⟩, .string ⟨#[]⟩, .string ⟨#[]⟩, .int .u32 0, .string ⟨#[]⟩, .string ⟨#[]⟩, .string ⟨#[]⟩, .string ⟨#[]⟩, .slice none 0 0, .int .u32 0, .string ⟨#[]⟩] 54) := ⟨_, rfl⟩
  have b1 : Below w.heap.size w (w.alloc (.cells (rfV x t).toArray 54)) := (Below.refl _ _).alloc (Nat.le_refl _) _
  have hz0 : (w.alloc (.cells (rfV x t).toArray 54)).heap.size = w.heap.size + 1 := World.size_alloc _ _
  have hsz : w1.heap.size = w.heap.size + 1 + 1 := by rw [hw1]; simp
  have b2 : Below (w.alloc (.cells (rfV x t).toArray 54)).heap.size (w.alloc (.cells (rfV x t).toArray 54)) w1 := by rw [hw1]; exact (Below.refl _ _).alloc (Nat.le_refl _) _
  have HB1 : Hid (Below w.heap.size w w1) := Lib.hid (seqB b1 b2)
  have HX1 : Hid (Bx (fun b => b = w.heap.size) w1 w.heap.size (rfV x t)) := Lib.hid (Bx.after (Bx.alloc w (rfV x t).toArray 54 (S := fun b => b = w.heap.size) rfl rfl) b2)
  have HY1 : Hid (Bx (fun b => b = w.heap.size + 1) w1 (w.heap.size + 1) zeroRf) := Lib.hid (by rw [hw1]; exact Bx.alloc _ #[.int .u8 0, .int .u32 0, .string ⟨#[]⟩, .int .u16 0, .int .i32 0, .int .i32 0, .int .i32 0, .int .u8 0, .string ⟨#[]⟩, .string ⟨#[]⟩, .string ⟨#[]⟩, .slice none 0 0, .string ⟨#[]⟩, .slice none 0 0, .int .i64 0, .string ⟨#[]⟩, .string ⟨#[]⟩, .string ⟨#[]⟩, .string ⟨#[]⟩, .int .u32 0, .string ⟨#[]⟩, .string ⟨#[]⟩, .string ⟨#[]⟩, .string ⟨#[]⟩, .slice none 0 0, .int .u32 0, .string ⟨#[]⟩] 54 (X := w.heap.size + 1) (S := fun b => b = w.heap.size + 1) (by simp) (by simp))
  have HW := Lib.hid hw1; have HSZ := Lib.hid hsz
  clear hw1 b1 b2 hz0 hsz
  go_enter Tryz.func19, Tryz.ntmps19
  go_upto_region 1 with fail
  rw [show ((w.alloc (.cells (rfV x t).toArray 54)).alloc (.cells #[.int .u8 0, .int .u32 0, .string ⟨#[]⟩, .int .u16 0, .int .i32 0, .int .i32 0, .int .i32 0, .int .u8 0, .string ⟨#[]⟩, .string ⟨#[]⟩, .string ⟨#[]⟩, .slice none 0 0, .string ⟨#[]⟩, .slice none 0 0, .int .i64 0, .string ⟨#[]⟩, .string ⟨#[]⟩, .string ⟨#[]⟩, .string ⟨#[]⟩, .int .u32 0, .string ⟨#[]⟩, .string ⟨#[]⟩, .string ⟨#[]⟩, .string ⟨#[]⟩, .slice none 0 0, .int .u32 0, .string ⟨#[]⟩] 54)) = w1 from HW.out.symm]
  have hlx : w.heap.size < w1.heap.size := by have := HSZ.out; omega
  have hly : w.heap.size + 1 < w1.heap.size := by have := HSZ.out; omega
  go_wp2_with fail
  refine (rgetText_any (S := S) (a := a) (HS.out.after HB1.out) hm ha _ rfl).mono ?_
  rintro e w2 ⟨q, rfl, hq, rfl⟩
  obtain ⟨w2, hw2⟩ : ∃ w2, w2 = w1 := ⟨_, rfl⟩
  have hb : Below w1.heap.size w1 w2 := by rw [hw2]; exact Below.refl _ _
  rw [← hw2]
  clear hw2
  have HQ := Lib.hid hq; clear hq
  have HB2 : Hid (Below w.heap.size w w2) := Lib.hid (Below.trans HB1.out (hb.mono (by have := HSZ.out; omega)))
  have HX2 := Lib.hid (goesBx.after HX1.out hb)
  have HY2 := Lib.hid (goesBx.after HY1.out hb)
  have hlx2 := HX2.out.lt
  have hly2 := HY2.out.lt
  clear hlx hly
  have HRE : Hid (rerr (readL 84 x (bs.drop a)) = rerr (getText (bs.drop a))) := Lib.hid (by rw [rd_84]; exact err_bind)
  obtain ⟨er, her⟩ : ∃ er, rerr (getText (bs.drop a)) = er := ⟨_, rfl⟩
  rw [her] at HRE ⊢
  clear her
  obtain ⟨v, hv⟩ : ∃ v, rval [] (getText (bs.drop a)) = v := ⟨_, rfl⟩
  rw [hv]
  have HV := Lib.hid hv; clear hv
  have kf := HX2.out.c 21 _ rfl
  have ff := HX2.out.fr 21
  go_upto_region 57 with fail
  clear kf ff
  have HX3 : Hid (Bx (fun b => b = w.heap.size) (w2.setCell ⟨w.heap.size, 21, none⟩ (.string (str v))) w.heap.size (rfV { x with change := { x.change with target := v } } t)) := Lib.hid (HX2.out.put 21 (.string (str v)) (by show 21 < 27; decide))
  have HY3 : Hid (Bx (fun b => b = w.heap.size + 1) (w2.setCell ⟨w.heap.size, 21, none⟩ (.string (str v))) (w.heap.size + 1) zeroRf) := Lib.hid (goesBx.keep HY2.out (by simp) fun b hb hl => Below.heap_setCell _ ⟨w.heap.size, 21, none⟩ _ b (by show b ≠ w.heap.size; omega))
  have HB3 : Hid (Below w.heap.size w (w2.setCell ⟨w.heap.size, 21, none⟩ (.string (str v)))) := Lib.hid (HB2.out.setCell (Nat.le_refl _) _)
  have HR3 : Hid (RfR (fun b => S2 b ∧ b < w.heap.size) (w2.setCell ⟨w.heap.size, 21, none⟩ (.string (str v))) { x with change := { x.change with target := v } } t) := Lib.hid (⟨(goesRf.after HR.out HB3.out).fa, (goesRf.after HR.out HB3.out).su, (goesRf.after HR.out HB3.out).cg⟩)
  go_wp2_with (first | (refine wpList_loadB HX3.out (by rfl) 54 _ (by rfl) (by rfl) _ Tryz.underlying54 rfl (by kernel_rfl) ?_) | (refine wpList_storeB HY3.out (by rfl) 54 _ _ (by rfl) 0 (rfV { x with change := { x.change with target := v } } t) (by rfl) (by rfl) (by kernel_rfl) (by show 0 + 27 ≤ 27; decide) (by rfl) ?_; intro w9 hb9 hg9; have HY9 := Lib.hid hb9; have HG9 := Lib.hid hg9; clear hb9 hg9))
  refine bodyPost_ret (results_box3 (vs := rfV { x with change := { x.change with target := v } } t) rfl HY9.out (by rfl) (by rfl) (by rfl) _ Tryz.underlying54 rfl (by kernel_rfl)) rfl ?_
  have hgz := HG9.out.size
  have HB9 : Below w.heap.size w w9 := Below.trans HB3.out (below_of_grown' HG9.out (by omega) HB3.out.size)
  refine ⟨{ x with change := { x.change with target := v } }, t, q, by rw [HRE.out]; rfl, goesRf.mono (goesRf.keep HR3.out HG9.out.size fun b hb hl => HG9.out.block b hl (fun e => by have := hb.2; injection e with e; omega)) (fun b hb _ => .inl hb.1), fun y rest h => ?_, by rw [rd_84]; exact at_bind HQ.out, HB9⟩
  rw [← HV.out]
  rw [rd_84] at h
  exact is_bind h

set_option maxHeartbeats 4000000 in
set_option maxRecDepth 100000 in
theorem rrd_S {S S2 : Nat → Prop} {A : Option Addr} {m c a : Nat} {bs : B} {x : Rf} {t : Tfs} {w : World} (hs : Sl S w A m c bs) (hm : m ≤ 140737488355328) (ha : a ≤ m) (hR : RfR S2 w x t) :
    Calls Tryz.prog 19 #[.agg (rfV x t).toArray, .int .u8 83, .slice A m c, .int .i64 (a : Int)] w fun e w' => RdP S2 w bs (readL 83 x (bs.drop a)) e w' := by
  have HR := Lib.hid (goesRf.mono (S' := fun b => S2 b ∧ b < w.heap.size) hR fun b h1 h2 => ⟨h1, h2⟩); clear hR
  have hcp := hs.cap
  have hcm := hs.capMax
  have hln := Lib.hid hs.len
  have HS := Lib.hid hs; clear hs
  obtain ⟨w1, hw1⟩ : ∃ w1, w1 = (w.alloc (.cells (rfV x t).toArray 54)).alloc (.cells #[.int .u8 0, .int .u32 0, .string ⟨#[]⟩, .int .u16 0, .int .i32 0, .int .i32 0, .int .i32 0, .int .u8 0, .string ⟨#[]⟩, .string ⟨#[]⟩, .string ⟨#[]⟩, .slice none 0 0, .string ⟨#[]⟩, .slice none 0 0, .int .i64 0, .string ⟨#[]⟩, .string ⟨#[]⟩, .string ⟨#[]⟩, .string ⟨#[]⟩, .int .u32 0, .string ⟨#[]⟩, .string ⟨#[]⟩, .string ⟨#[]⟩, .string ⟨#[]⟩, .slice none 0 0, .int .u32 0, .string ⟨#[]⟩] 54) := ⟨_, rfl⟩
  have b1 : Below w.heap.size w (w.alloc (.cells (rfV x t).toArray 54)) := (Below.refl _ _).alloc (Nat.le_refl _) _
  have hz0 : (w.alloc (.cells (rfV x t).toArray 54)).heap.size = w.heap.size + 1 := World.size_alloc _ _
  have hsz : w1.heap.size = w.heap.size + 1 + 1 := by rw [hw1]; simp
  have b2 : Below (w.alloc (.cells (rfV x t).toArray 54)).heap.size (w.alloc (.cells (rfV x t).toArray 54)) w1 := by rw [hw1]; exact (Below.refl _ _).alloc (Nat.le_refl _) _
  have HB1 : Hid (Below w.heap.size w w1) := Lib.hid (seqB b1 b2)
  have HX1 : Hid (Bx (fun b => b = w.heap.size) w1 w.heap.size (rfV x t)) := Lib.hid (Bx.after (Bx.alloc w (rfV x t).toArray 54 (S := fun b => b = w.heap.size) rfl rfl) b2)
  have HY1 : Hid (Bx (fun b => b = w.heap.size + 1) w1 (w.heap.size + 1) zeroRf) := Lib.hid (by rw [hw1]; exact Bx.alloc _ #[.int .u8 0, .int .u32 0, .string ⟨#[]⟩, .int .u16 0, .int .i32 0, .int .i32 0, .int .i32 0, .int .u8 0, .string ⟨#[]⟩, .string ⟨#[]⟩, .string ⟨#[]⟩, .slice none 0 0, .string ⟨#[]⟩, .slice none 0 0, .int .i64 0, .string ⟨#[]⟩, .string ⟨#[]⟩, .string ⟨#[]⟩, .string ⟨#[]⟩, .int .u32 0, .string ⟨#[]⟩, .string ⟨#[]⟩, .string ⟨#[]⟩, .string ⟨#[]⟩, .slice none 0 0, .int .u32 0, .string ⟨#[]⟩] 54 (X := w.heap.size + 1) (S := fun b => b = w.heap.size + 1) (by simp) (by simp))
  have HW := Lib.hid hw1; have HSZ := Lib.hid hsz
  clear hw1 b1 b2 hz0 hsz
  go_enter Tryz.func19, Tryz.ntmps19
  go_upto_region 1 with fail
  rw [show ((w.alloc (.cells (rfV x t).toArray 54)).alloc (.cells #[.int .u8 0, .int .u32 0, .string ⟨#[]⟩, .int .u16 0, .int .i32 0, .int .i32 0, .int .i32 0, .int .u8 0, .string ⟨#[]⟩, .string ⟨#[]⟩, .string ⟨#[]⟩, .slice none 0 0, .string ⟨#[]⟩, .slice none 0 0, .int .i64 0, .string ⟨#[]⟩, .string ⟨#[]⟩, .string ⟨#[]⟩, .string ⟨#[]⟩, .int .u32 0, .string ⟨#[]⟩, .string ⟨#[]⟩, .string ⟨#[]⟩, .string ⟨#[]⟩, .slice none 0 0, .int .u32 0, .string ⟨#[]⟩] 54)) = w1 from HW.out.symm]
  have hlx : w.heap.size < w1.heap.size := by have := HSZ.out; omega
  have hly : w.heap.size + 1 < w1.heap.size := by have := HSZ.out; omega
  go_wp2_with fail
  refine (rgetText_any (S := S) (a := a) (HS.out.after HB1.out) hm ha _ rfl).mono ?_
  rintro e w2 ⟨q, rfl, hq, rfl⟩
  obtain ⟨w2, hw2⟩ : ∃ w2, w2 = w1 := ⟨_, rfl⟩
  have hb : Below w1.heap.size w1 w2 := by rw [hw2]; exact Below.refl _ _
  rw [← hw2]
  clear hw2
  have HQ := Lib.hid hq; clear hq
  have HB2 : Hid (Below w.heap.size w w2) := Lib.hid (Below.trans HB1.out (hb.mono (by have := HSZ.out; omega)))
  have HX2 := Lib.hid (goesBx.after HX1.out hb)
  have HY2 := Lib.hid (goesBx.after HY1.out hb)
  have hlx2 := HX2.out.lt
  have hly2 := HY2.out.lt
  clear hlx hly
  have HRE : Hid (rerr (readL 83 x (bs.drop a)) = rerr (getText (bs.drop a))) := Lib.hid (by rw [rd_83]; exact err_bind)
  obtain ⟨er, her⟩ : ∃ er, rerr (getText (bs.drop a)) = er := ⟨_, rfl⟩
  rw [her] at HRE ⊢
  clear her
  obtain ⟨v, hv⟩ : ∃ v, rval [] (getText (bs.drop a)) = v := ⟨_, rfl⟩
  rw [hv]
  have HV := Lib.hid hv; clear hv
  have kf := HX2.out.c 22 _ rfl
  have ff := HX2.out.fr 22
  go_upto_region 57 with fail
  clear kf ff
  have HX3 : Hid (Bx (fun b => b = w.heap.size) (w2.setCell ⟨w.heap.size, 22, none⟩ (.string (str v))) w.heap.size (rfV { x with change := { x.change with space := v } } t)) := Lib.hid (HX2.out.put 22 (.string (str v)) (by show 22 < 27; decide))
  have HY3 : Hid (Bx (fun b => b = w.heap.size + 1) (w2.setCell ⟨w.heap.size, 22, none⟩ (.string (str v))) (w.heap.size + 1) zeroRf) := Lib.hid (goesBx.keep HY2.out (by simp) fun b hb hl => Below.heap_setCell _ ⟨w.heap.size, 22, none⟩ _ b (by show b ≠ w.heap.size; omega))
  have HB3 : Hid (Below w.heap.size w (w2.setCell ⟨w.heap.size, 22, none⟩ (.string (str v)))) := Lib.hid (HB2.out.setCell (Nat.le_refl _) _)
  have HR3 : Hid (RfR (fun b => S2 b ∧ b < w.heap.size) (w2.setCell ⟨w.heap.size, 22, none⟩ (.string (str v))) { x with change := { x.change with space := v } } t) := Lib.hid (⟨(goesRf.after HR.out HB3.out).fa, (goesRf.after HR.out HB3.out).su, (goesRf.after HR.out HB3.out).cg⟩)
  go_wp2_with (first | (refine wpList_loadB HX3.out (by rfl) 54 _ (by rfl) (by rfl) _ Tryz.underlying54 rfl (by kernel_rfl) ?_) | (refine wpList_storeB HY3.out (by rfl) 54 _ _ (by rfl) 0 (rfV { x with change := { x.change with space := v } } t) (by rfl) (by rfl) (by kernel_rfl) (by show 0 + 27 ≤ 27; decide) (by rfl) ?_; intro w9 hb9 hg9; have HY9 := Lib.hid hb9; have HG9 := Lib.hid hg9; clear hb9 hg9))
  refine bodyPost_ret (results_box3 (vs := rfV { x with change := { x.change with space := v } } t) rfl HY9.out (by rfl) (by rfl) (by rfl) _ Tryz.underlying54 rfl (by kernel_rfl)) rfl ?_
  have hgz := HG9.out.size
  have HB9 : Below w.heap.size w w9 := Below.trans HB3.out (below_of_grown' HG9.out (by omega) HB3.out.size)
  refine ⟨{ x with change := { x.change with space := v } }, t, q, by rw [HRE.out]; rfl, goesRf.mono (goesRf.keep HR3.out HG9.out.size fun b hb hl => HG9.out.block b hl (fun e => by have := hb.2; injection e with e; omega)) (fun b hb _ => .inl hb.1), fun y rest h => ?_, by rw [rd_83]; exact at_bind HQ.out, HB9⟩
  rw [← HV.out]
  rw [rd_83] at h
  exact is_bind h

set_option maxHeartbeats 4000000 in
set_option maxRecDepth 100000 in
theorem rrd_N {S S2 : Nat → Prop} {A : Option Addr} {m c a : Nat} {bs : B} {x : Rf} {t : Tfs} {w : World} (hs : Sl S w A m c bs) (hm : m ≤ 140737488355328) (ha : a ≤ m) (hR : RfR S2 w x t) :
    Calls Tryz.prog 19 #[.agg (rfV x t).toArray, .int .u8 78, .slice A m c, .int .i64 (a : Int)] w fun e w' => RdP S2 w bs (readL 78 x (bs.drop a)) e w' := by
  have HR := Lib.hid (goesRf.mono (S' := fun b => S2 b ∧ b < w.heap.size) hR fun b h1 h2 => ⟨h1, h2⟩); clear hR
  have hcp := hs.cap
  have hcm := hs.capMax
  have hln := Lib.hid hs.len
  have HS := Lib.hid hs; clear hs
  obtain ⟨w1, hw1⟩ : ∃ w1, w1 = (w.alloc (.cells (rfV x t).toArray 54)).alloc (.cells #[.int .u8 0, .int .u32 0, .string ⟨#[]⟩, .int .u16 0, .int .i32 0, .int .i32 0, .int .i32 0, .int .u8 0, .string ⟨#[]⟩, .string ⟨#[]⟩, .string ⟨#[]⟩, .slice none 0 0, .string ⟨#[]⟩, .slice none 0 0, .int .i64 0, .string ⟨#[]⟩, .string ⟨#[]⟩, .string ⟨#[]⟩, .string ⟨#[]⟩, .int .u32 0, .string ⟨#[]⟩, .string ⟨#[]⟩, .string ⟨#[]⟩, .string ⟨#[]⟩, .slice none 0 0, .int .u32 0, .string ⟨#[]⟩] 54) := ⟨_, rfl⟩
  have b1 : Below w.heap.size w (w.alloc (.cells (rfV x t).toArray 54)) := (Below.refl _ _).alloc (Nat.le_refl _) _
  have hz0 : (w.alloc (.cells (rfV x t).toArray 54)).heap.size = w.heap.size + 1 := World.size_alloc _ _
  have hsz : w1.heap.size = w.heap.size + 1 + 1 := by rw [hw1]; simp
  have b2 : Below (w.alloc (.cells (rfV x t).toArray 54)).heap.size (w.alloc (.cells (rfV x t).toArray 54)) w1 := by rw [hw1]; exact (Below.refl _ _).alloc (Nat.le_refl _) _
  have HB1 : Hid (Below w.heap.size w w1) := Lib.hid (seqB b1 b2)
  have HX1 : Hid (Bx (fun b => b = w.heap.size) w1 w.heap.size (rfV x t)) := Lib.hid (Bx.after (Bx.alloc w (rfV x t).toArray 54 (S := fun b => b = w.heap.size) rfl rfl) b2)
  have HY1 : Hid (Bx (fun b => b = w.heap.size + 1) w1 (w.heap.size + 1) zeroRf) := Lib.hid (by rw [hw1]; exact Bx.alloc _ #[.int .u8 0, .int .u32 0, .string ⟨#[]⟩, .int .u16 0, .int .i32 0, .int .i32 0, .int .i32 0, .int .u8 0, .string ⟨#[]⟩, .string ⟨#[]⟩, .string ⟨#[]⟩, .slice none 0 0, .string ⟨#[]⟩, .slice none 0 0, .int .i64 0, .string ⟨#[]⟩, .string ⟨#[]⟩, .string ⟨#[]⟩, .string ⟨#[]⟩, .int .u32 0, .string ⟨#[]⟩, .string ⟨#[]⟩, .string ⟨#[]⟩, .string ⟨#[]⟩, .slice none 0 0, .int .u32 0, .string ⟨#[]⟩] 54 (X := w.heap.size + 1) (S := fun b => b = w.heap.size + 1) (by simp) (by simp))
  have HW := Lib.hid hw1; have HSZ := Lib.hid hsz
  clear hw1 b1 b2 hz0 hsz
  go_enter Tryz.func19, Tryz.ntmps19
  go_upto_region 1 with fail
  rw [show ((w.alloc (.cells (rfV x t).toArray 54)).alloc (.cells #[.int .u8 0, .int .u32 0, .string ⟨#[]⟩, .int .u16 0, .int .i32 0, .int .i32 0, .int .i32 0, .int .u8 0, .string ⟨#[]⟩, .string ⟨#[]⟩, .string ⟨#[]⟩, .slice none 0 0, .string ⟨#[]⟩, .slice none 0 0, .int .i64 0, .string ⟨#[]⟩, .string ⟨#[]⟩, .string ⟨#[]⟩, .string ⟨#[]⟩, .int .u32 0, .string ⟨#[]⟩, .string ⟨#[]⟩, .string ⟨#[]⟩, .string ⟨#[]⟩, .slice none 0 0, .int .u32 0, .string ⟨#[]⟩] 54)) = w1 from HW.out.symm]
  have hlx : w.heap.size < w1.heap.size := by have := HSZ.out; omega
  have hly : w.heap.size + 1 < w1.heap.size := by have := HSZ.out; omega
  go_wp2_with fail
  refine (rgetText_any (S := S) (a := a) (HS.out.after HB1.out) hm ha _ rfl).mono ?_
  rintro e w2 ⟨q, rfl, hq, rfl⟩
  obtain ⟨w2, hw2⟩ : ∃ w2, w2 = w1 := ⟨_, rfl⟩
  have hb : Below w1.heap.size w1 w2 := by rw [hw2]; exact Below.refl _ _
  rw [← hw2]
  clear hw2
  have HQ := Lib.hid hq; clear hq
  have HB2 : Hid (Below w.heap.size w w2) := Lib.hid (Below.trans HB1.out (hb.mono (by have := HSZ.out; omega)))
  have HX2 := Lib.hid (goesBx.after HX1.out hb)
  have HY2 := Lib.hid (goesBx.after HY1.out hb)
  have hlx2 := HX2.out.lt
  have hly2 := HY2.out.lt
  clear hlx hly
  have HRE : Hid (rerr (readL 78 x (bs.drop a)) = rerr (getText (bs.drop a))) := Lib.hid (by rw [rd_78]; exact err_bind)
  obtain ⟨er, her⟩ : ∃ er, rerr (getText (bs.drop a)) = er := ⟨_, rfl⟩
  rw [her] at HRE ⊢
  clear her
  obtain ⟨v, hv⟩ : ∃ v, rval [] (getText (bs.drop a)) = v := ⟨_, rfl⟩
  rw [hv]
  have HV := Lib.hid hv; clear hv
  have kf := HX2.out.c 23 _ rfl
  have ff := HX2.out.fr 23
  go_upto_region 57 with fail
  clear kf ff
  have HX3 : Hid (Bx (fun b => b = w.heap.size) (w2.setCell ⟨w.heap.size, 23, none⟩ (.string (str v))) w.heap.size (rfV { x with change := { x.change with name := v } } t)) := Lib.hid (HX2.out.put 23 (.string (str v)) (by show 23 < 27; decide))
  have HY3 : Hid (Bx (fun b => b = w.heap.size + 1) (w2.setCell ⟨w.heap.size, 23, none⟩ (.string (str v))) (w.heap.size + 1) zeroRf) := Lib.hid (goesBx.keep HY2.out (by simp) fun b hb hl => Below.heap_setCell _ ⟨w.heap.size, 23, none⟩ _ b (by show b ≠ w.heap.size; omega))
  have HB3 : Hid (Below w.heap.size w (w2.setCell ⟨w.heap.size, 23, none⟩ (.string (str v)))) := Lib.hid (HB2.out.setCell (Nat.le_refl _) _)
  have HR3 : Hid (RfR (fun b => S2 b ∧ b < w.heap.size) (w2.setCell ⟨w.heap.size, 23, none⟩ (.string (str v))) { x with change := { x.change with name := v } } t) := Lib.hid (⟨(goesRf.after HR.out HB3.out).fa, (goesRf.after HR.out HB3.out).su, (goesRf.after HR.out HB3.out).cg⟩)
  go_wp2_with (first | (refine wpList_loadB HX3.out (by rfl) 54 _ (by rfl) (by rfl) _ Tryz.underlying54 rfl (by kernel_rfl) ?_) | (refine wpList_storeB HY3.out (by rfl) 54 _ _ (by rfl) 0 (rfV { x with change := { x.change with name := v } } t) (by rfl) (by rfl) (by kernel_rfl) (by show 0 + 27 ≤ 27; decide) (by rfl) ?_; intro w9 hb9 hg9; have HY9 := Lib.hid hb9; have HG9 := Lib.hid hg9; clear hb9 hg9))
  refine bodyPost_ret (results_box3 (vs := rfV { x with change := { x.change with name := v } } t) rfl HY9.out (by rfl) (by rfl) (by rfl) _ Tryz.underlying54 rfl (by kernel_rfl)) rfl ?_
  have hgz := HG9.out.size
  have HB9 : Below w.heap.size w w9 := Below.trans HB3.out (below_of_grown' HG9.out (by omega) HB3.out.size)
  refine ⟨{ x with change := { x.change with name := v } }, t, q, by rw [HRE.out]; rfl, goesRf.mono (goesRf.keep HR3.out HG9.out.size fun b hb hl => HG9.out.block b hl (fun e => by have := hb.2; injection e with e; omega)) (fun b hb _ => .inl hb.1), fun y rest h => ?_, by rw [rd_78]; exact at_bind HQ.out, HB9⟩
  rw [← HV.out]
  rw [rd_78] at h
  exact is_bind h

set_option maxHeartbeats 4000000 in
set_option maxRecDepth 100000 in
theorem rrd_G {S S2 : Nat → Prop} {A : Option Addr} {m c a : Nat} {bs : B} {x : Rf} {t : Tfs} {w : World} (hs : Sl S w A m c bs) (hm : m ≤ 140737488355328) (ha : a ≤ m) (hR : RfR S2 w x t) :
    Calls Tryz.prog 19 #[.agg (rfV x t).toArray, .int .u8 71, .slice A m c, .int .i64 (a : Int)] w fun e w' => RdP S2 w bs (readL 71 x (bs.drop a)) e w' := by
  have HR := Lib.hid (goesRf.mono (S' := fun b => S2 b ∧ b < w.heap.size) hR fun b h1 h2 => ⟨h1, h2⟩); clear hR
  have hcp := hs.cap
  have hcm := hs.capMax
  have hln := Lib.hid hs.len
  have HS := Lib.hid hs; clear hs
  obtain ⟨w1, hw1⟩ : ∃ w1, w1 = (w.alloc (.cells (rfV x t).toArray 54)).alloc (.cells #[.int .u8 0, .int .u32 0, .string ⟨#[]⟩, .int .u16 0, .int .i32 0, .int .i32 0, .int .i32 0, .int .u8 0, .string ⟨#[]⟩, .string ⟨#[]⟩, .string ⟨#[]⟩, .slice none 0 0, .string ⟨#[]⟩, .slice none 0 0, .int .i64 0, .string ⟨#[]⟩, .string ⟨#[]⟩, .string ⟨#[]⟩, .string ⟨#[]⟩, .int .u32 0, .string ⟨#[]⟩, .string ⟨#[]⟩, .string ⟨#[]⟩, .string ⟨#[]⟩, .slice none 0 0, .int .u32 0, .string ⟨#[]⟩] 54) := ⟨_, rfl⟩
  have b1 : Below w.heap.size w (w.alloc (.cells (rfV x t).toArray 54)) := (Below.refl _ _).alloc (Nat.le_refl _) _
  have hz0 : (w.alloc (.cells (rfV x t).toArray 54)).heap.size = w.heap.size + 1 := World.size_alloc _ _
  have hsz : w1.heap.size = w.heap.size + 1 + 1 := by rw [hw1]; simp
  have b2 : Below (w.alloc (.cells (rfV x t).toArray 54)).heap.size (w.alloc (.cells (rfV x t).toArray 54)) w1 := by rw [hw1]; exact (Below.refl _ _).alloc (Nat.le_refl _) _
  have HB1 : Hid (Below w.heap.size w w1) := Lib.hid (seqB b1 b2)
  have HX1 : Hid (Bx (fun b => b = w.heap.size) w1 w.heap.size (rfV x t)) := Lib.hid (Bx.after (Bx.alloc w (rfV x t).toArray 54 (S := fun b => b = w.heap.size) rfl rfl) b2)
  have HY1 : Hid (Bx (fun b => b = w.heap.size + 1) w1 (w.heap.size + 1) zeroRf) := Lib.hid (by rw [hw1]; exact Bx.alloc _ #[.int .u8 0, .int .u32 0, .string ⟨#[]⟩, .int .u16 0, .int .i32 0, .int .i32 0, .int .i32 0, .int .u8 0, .string ⟨#[]⟩, .string ⟨#[]⟩, .string ⟨#[]⟩, .slice none 0 0, .string ⟨#[]⟩, .slice none 0 0, .int .i64 0, .string ⟨#[]⟩, .string ⟨#[]⟩, .string ⟨#[]⟩, .string ⟨#[]⟩, .int .u32 0, .string ⟨#[]⟩, .string ⟨#[]⟩, .string ⟨#[]⟩, .string ⟨#[]⟩, .slice none 0 0, .int .u32 0, .string ⟨#[]⟩] 54 (X := w.heap.size + 1) (S := fun b => b = w.heap.size + 1) (by simp) (by simp))
  have HW := Lib.hid hw1; have HSZ := Lib.hid hsz
  clear hw1 b1 b2 hz0 hsz
  go_enter Tryz.func19, Tryz.ntmps19
  go_upto_region 1 with fail
  rw [show ((w.alloc (.cells (rfV x t).toArray 54)).alloc (.cells #[.int .u8 0, .int .u32 0, .string ⟨#[]⟩, .int .u16 0, .int .i32 0, .int .i32 0, .int .i32 0, .int .u8 0, .string ⟨#[]⟩, .string ⟨#[]⟩, .string ⟨#[]⟩, .slice none 0 0, .string ⟨#[]⟩, .slice none 0 0, .int .i64 0, .string ⟨#[]⟩, .string ⟨#[]⟩, .string ⟨#[]⟩, .string ⟨#[]⟩, .int .u32 0, .string ⟨#[]⟩, .string ⟨#[]⟩, .string ⟨#[]⟩, .string ⟨#[]⟩, .slice none 0 0, .int .u32 0, .string ⟨#[]⟩] 54)) = w1 from HW.out.symm]
  have hlx : w.heap.size < w1.heap.size := by have := HSZ.out; omega
  have hly : w.heap.size + 1 < w1.heap.size := by have := HSZ.out; omega
  have kf := HX1.out.c 24 _ rfl
  have ff := HX1.out.fr 24
  clear kf ff
  go_wp2_with fail
  refine (rgeti0_any (S := S) (a := a) (HS.out.after HB1.out) hm ha _ rfl).mono ?_
  rintro e w2 ⟨A2, n2, c2, q, rfl, har, hq, hb⟩
  have HAR := Lib.hid har; clear har
  have HQ := Lib.hid hq; clear hq
  have HB2 : Hid (Below w.heap.size w w2) := Lib.hid (Below.trans HB1.out (hb.mono (by have := HSZ.out; omega)))
  have HX2 := Lib.hid (goesBx.after HX1.out hb)
  have HY2 := Lib.hid (goesBx.after HY1.out hb)
  have hlx2 := HX2.out.lt
  have hly2 := HY2.out.lt
  clear hlx hly
  have HRE : Hid (rerr (readL 71 x (bs.drop a)) = rerr (getL (itemR 0) (bs.drop a))) := Lib.hid (by rw [rd_71, gi_texts, err_map]; exact err_bind)
  obtain ⟨er, her⟩ : ∃ er, rerr (getL (itemR 0) (bs.drop a)) = er := ⟨_, rfl⟩
  rw [her] at HRE ⊢
  clear her
  obtain ⟨v, hv⟩ : ∃ v, rval [] (getTexts (bs.drop a)) = v := ⟨_, rfl⟩
  have HV := Lib.hid hv
  have HAR2 : Hid (Arr 5 (itemP (fun b => w1.heap.size ≤ b) w2) (fun b => w1.heap.size ≤ b) w2 A2 n2 c2 (v.map Thing.ofText)) := Lib.hid (by rw [← hv, ← val_map (List.map Thing.ofText) rfl _, ← gi_texts]; exact HAR.out)
  clear hv
  have kf := HX2.out.c 24 _ rfl
  have ff := HX2.out.fr 24
  go_upto_region 57 with fail
  clear kf ff
  have HX3 : Hid (Bx (fun b => b = w.heap.size) (w2.setCell ⟨w.heap.size, 24, none⟩ (.slice A2 n2 c2)) w.heap.size (rfV { x with change := { x.change with args := v } } { t with cg := ⟨A2, n2, c2⟩ })) := Lib.hid (HX2.out.put 24 (.slice A2 n2 c2) (by show 24 < 27; decide))
  have HY3 : Hid (Bx (fun b => b = w.heap.size + 1) (w2.setCell ⟨w.heap.size, 24, none⟩ (.slice A2 n2 c2)) (w.heap.size + 1) zeroRf) := Lib.hid (goesBx.keep HY2.out (by simp) fun b hb hl => Below.heap_setCell _ ⟨w.heap.size, 24, none⟩ _ b (by show b ≠ w.heap.size; omega))
  have HB3 : Hid (Below w.heap.size w (w2.setCell ⟨w.heap.size, 24, none⟩ (.slice A2 n2 c2))) := Lib.hid (HB2.out.setCell (Nat.le_refl _) _)
  have HA3 : Hid (Arr 5 (itemP (fun b => w1.heap.size ≤ b ∧ b < w2.heap.size) (w2.setCell ⟨w.heap.size, 24, none⟩ (.slice A2 n2 c2))) (fun b => w1.heap.size ≤ b ∧ b < w2.heap.size) (w2.setCell ⟨w.heap.size, 24, none⟩ (.slice A2 n2 c2)) A2 n2 c2 (v.map Thing.ofText)) := Lib.hid (goesArrI.keep (goesArrI.mono (S' := fun b => w1.heap.size ≤ b ∧ b < w2.heap.size) HAR2.out fun b h1 h2 => ⟨h1, h2⟩) (by simp) fun b hb hl => Below.heap_setCell _ ⟨w.heap.size, 24, none⟩ _ b (by show b ≠ w.heap.size; have := HSZ.out; omega))
  have HR3 : Hid (RfR (fun b => (S2 b ∧ b < w.heap.size) ∨ w1.heap.size ≤ b) (w2.setCell ⟨w.heap.size, 24, none⟩ (.slice A2 n2 c2)) { x with change := { x.change with args := v } } { t with cg := ⟨A2, n2, c2⟩ }) := Lib.hid ⟨goesArrI.mono (goesRf.after HR.out HB3.out).fa (fun b hb _ => .inl hb), goesArrI.mono (goesRf.after HR.out HB3.out).su (fun b hb _ => .inl hb), goesArrI.mono HA3.out (fun b hb _ => .inr hb.1)⟩
  go_wp2_with (first | (refine wpList_loadB HX3.out (by rfl) 54 _ (by rfl) (by rfl) _ Tryz.underlying54 rfl (by kernel_rfl) ?_) | (refine wpList_storeB HY3.out (by rfl) 54 _ _ (by rfl) 0 (rfV { x with change := { x.change with args := v } } { t with cg := ⟨A2, n2, c2⟩ }) (by rfl) (by rfl) (by kernel_rfl) (by show 0 + 27 ≤ 27; decide) (by rfl) ?_; intro w9 hb9 hg9; have HY9 := Lib.hid hb9; have HG9 := Lib.hid hg9; clear hb9 hg9))
  refine bodyPost_ret (results_box3 (vs := rfV { x with change := { x.change with args := v } } { t with cg := ⟨A2, n2, c2⟩ }) rfl HY9.out (by rfl) (by rfl) (by rfl) _ Tryz.underlying54 rfl (by kernel_rfl)) rfl ?_
  have hgz := HG9.out.size
  have HB9 : Below w.heap.size w w9 := Below.trans HB3.out (below_of_grown' HG9.out (by omega) HB3.out.size)
  refine ⟨{ x with change := { x.change with args := v } }, { t with cg := ⟨A2, n2, c2⟩ }, q, by rw [HRE.out]; rfl, goesRf.mono (goesRf.keep HR3.out HG9.out.size fun b hb hl => HG9.out.block b hl (fun e => by have := HSZ.out; injection e with e; rcases hb with hb | hb; have := hb.2; omega; omega)) (fun b hb hl => by have := HSZ.out; rcases hb with hb | hb; exact .inl hb.1; exact .inr (by omega)), fun y rest h => ?_, by rw [rd_71]; exact at_bind (at_map _ (gi_texts _ ▸ HQ.out)), HB9⟩
  rw [← HV.out]
  rw [rd_71] at h
  exact is_bind h
end Go.Proofs.Sb
