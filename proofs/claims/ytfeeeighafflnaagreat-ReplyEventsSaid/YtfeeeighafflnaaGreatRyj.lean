/- Walks over signalboxref09.read and write at any letter. Conditions: lengths up to 2^47. (written by gen_rye.py) -/
import Derived.Test.YtfeeeighafflnaaGreatRyf
import Derived.Test.YtfeeeighafflnaaGreatRyh
import Derived.Test.YtfeeeighafflnaaGreatRyc
import Derived.Test.YtfeeeighafflnaaGreatRole
import Derived.Deep.QuietTactic
import Derived.BigQuiet
set_option linter.unusedVariables false
set_option linter.unusedSimpArgs false
namespace Go.Proofs.Sb
open Go.RowKit _root_.Sb

set_option maxHeartbeats 4000000 in
set_option maxRecDepth 100000 in
theorem rrd_no {L : Nat} {S S2 : Nat → Prop} {A : Option Addr} {m c a : Nat} {bs : B} {x : Rf} {t : Tfs} {w : World} (hs : Sl S w A m c bs) (hm : m ≤ 140737488355328) (ha : a ≤ m) (hL : L ≠ 99 ∧ L ≠ 107 ∧ L ≠ 116 ∧ L ≠ 108 ∧ L ≠ 114 ∧ L ≠ 110 ∧ L ≠ 102 ∧ L ≠ 100 ∧ L ≠ 119 ∧ L ≠ 115 ∧ L ≠ 101 ∧ L ≠ 97 ∧ L ≠ 105 ∧ L ≠ 109 ∧ L ≠ 118 ∧ L ≠ 69 ∧ L ≠ 72 ∧ L ≠ 65 ∧ L ≠ 82 ∧ L ≠ 87 ∧ L ≠ 84 ∧ L ≠ 83 ∧ L ≠ 78 ∧ L ≠ 71) (hR : RfR S2 w x t) :
    Calls Tryz.prog 19 #[.agg (rfV x t).toArray, .int .u8 ((L : Nat) : Int), .slice A m c, .int .i64 (a : Int)] w fun e w' => RdP S2 w bs (readL L x (bs.drop a)) e w' := by
  have HR := Lib.hid (goesRf.mono (S' := fun b => S2 b ∧ b < w.heap.size) hR fun b h1 h2 => ⟨h1, h2⟩); clear hR
  have hcp := hs.cap
  have hcm := hs.capMax
  have hln := Lib.hid hs.len
  have HS := Lib.hid hs; clear hs
  obtain ⟨w1, hw1⟩ : ∃ w1, w1 = (w.alloc (.cells (rfV x t).toArray 54)).alloc (.cells #[.int .u8 0, .int .u32 0, .string ⟨#[]⟩, .int .u16 0, .int .i32 0, .int .i32 0, .int .i32 0, .int .u8 0, .string ⟨#[]⟩, .string ⟨#[]⟩, .string ⟨#[]⟩, .slice none 0 0, .string ⟨#[]⟩, .slice none 0 0, .int .i64 0, .string ⟨#[]⟩, .string ⟨#[]⟩, .string ⟨#[]⟩, .string ⟨#[]⟩, .int .u32 0, .string ⟨#[]⟩, .string ⟨#[]⟩, .string ⟨#[]⟩, .string ⟨#[]⟩, .slice none 0 0, .int .u32 0, .string ⟨#[]⟩] 54) := ⟨_, rfl⟩
  have b1 : Below w.heap.size w (w.alloc (.cells (rfV x t).toArray 54)) := (Below.refl _ _).alloc (Nat.le_refl _) _
  have hz0 : (w.alloc (.cells (rfV x t).toArray 54)).heap.size = w.heap.size + 1 := World.size_alloc _ _
  have hsz : w1.heap.size = w.heap.size + 1 + 1 := by rw [hw1]; simp
  have b2 : Below (w.alloc (.cells (rfV x t).toArray 54)).heap.size (w.alloc (.cells (rfV x t).toArray 54)) w1 := by rw [hw1]; exact (Below.refl _ _).alloc (Nat.le_refl _) _
  have HB1 : Hid (Below w.heap.size w w1) := Lib.hid (seqB b1 b2)
  have HX1 : Hid (Bx (fun b => b = w.heap.size) w1 w.heap.size (rfV x t)) := Lib.hid (Bx.after (Bx.alloc w (rfV x t).toArray 54 (S := fun b => b = w.heap.size) rfl rfl) b2)
  have HY1 : Hid (Bx (fun b => b = w.heap.size + 1) w1 (w.heap.size + 1) zeroRf) := Lib.hid (by rw [hw1]; exact Bx.alloc _ #[.int .u8 0, .int .u32 0, .string ⟨#[]⟩, .int .u16 0, .int .i32 0, .int .i32 0, .int .i32 0, .int .u8 0, .string ⟨#[]⟩, .string ⟨#[]⟩, .string ⟨#[]⟩, .slice none 0 0, .string ⟨#[]⟩, .slice none 0 0, .int .i64 0, .string ⟨#[]⟩, .string ⟨#[]⟩, .string ⟨#[]⟩, .string ⟨#[]⟩, .int .u32 0, .string ⟨#[]⟩, .string ⟨#[]⟩, .string ⟨#[]⟩, .string ⟨#[]⟩, .slice none 0 0, .int .u32 0, .string ⟨#[]⟩] 54 (X := w.heap.size + 1) (S := fun b => b = w.heap.size + 1) (by simp) (by simp))
  have HW := Lib.hid hw1; have HSZ := Lib.hid hsz
  clear hw1 b1 b2 hz0 hsz
  obtain ⟨l99, l107, l116, l108, l114, l110, l102, l100, l119, l115, l101, l97, l105, l109, l118, l69, l72, l65, l82, l87, l84, l83, l78, l71⟩ := hL
  have n99 : ((L : Int) == 99) = false := beq_eq_false_iff_ne.2 (by omega)
  have n107 : ((L : Int) == 107) = false := beq_eq_false_iff_ne.2 (by omega)
  have n116 : ((L : Int) == 116) = false := beq_eq_false_iff_ne.2 (by omega)
  have n108 : ((L : Int) == 108) = false := beq_eq_false_iff_ne.2 (by omega)
  have n114 : ((L : Int) == 114) = false := beq_eq_false_iff_ne.2 (by omega)
  have n110 : ((L : Int) == 110) = false := beq_eq_false_iff_ne.2 (by omega)
  have n102 : ((L : Int) == 102) = false := beq_eq_false_iff_ne.2 (by omega)
  have n100 : ((L : Int) == 100) = false := beq_eq_false_iff_ne.2 (by omega)
  have n119 : ((L : Int) == 119) = false := beq_eq_false_iff_ne.2 (by omega)
  have n115 : ((L : Int) == 115) = false := beq_eq_false_iff_ne.2 (by omega)
  have n101 : ((L : Int) == 101) = false := beq_eq_false_iff_ne.2 (by omega)
  have n97 : ((L : Int) == 97) = false := beq_eq_false_iff_ne.2 (by omega)
  have n105 : ((L : Int) == 105) = false := beq_eq_false_iff_ne.2 (by omega)
  have n109 : ((L : Int) == 109) = false := beq_eq_false_iff_ne.2 (by omega)
  have n118 : ((L : Int) == 118) = false := beq_eq_false_iff_ne.2 (by omega)
  have n69 : ((L : Int) == 69) = false := beq_eq_false_iff_ne.2 (by omega)
  have n72 : ((L : Int) == 72) = false := beq_eq_false_iff_ne.2 (by omega)
  have n65 : ((L : Int) == 65) = false := beq_eq_false_iff_ne.2 (by omega)
  have n82 : ((L : Int) == 82) = false := beq_eq_false_iff_ne.2 (by omega)
  have n87 : ((L : Int) == 87) = false := beq_eq_false_iff_ne.2 (by omega)
  have n84 : ((L : Int) == 84) = false := beq_eq_false_iff_ne.2 (by omega)
  have n83 : ((L : Int) == 83) = false := beq_eq_false_iff_ne.2 (by omega)
  have n78 : ((L : Int) == 78) = false := beq_eq_false_iff_ne.2 (by omega)
  have n71 : ((L : Int) == 71) = false := beq_eq_false_iff_ne.2 (by omega)
  have HX : Hid (∀ y b, readL L y b = .ok (y, b)) := Lib.hid (fun y b => by unfold readL; simp only [l99, l107, l116, l108, l114, l110, l102, l100, l119, l115, l101, l97, l105, l109, l118, l69, l72, l65, l82, l87, l84, l83, l78, l71, if_false])
  clear l99 l107 l116 l108 l114 l110 l102 l100 l119 l115 l101 l97 l105 l109 l118 l69 l72 l65 l82 l87 l84 l83 l78 l71
  go_enter Tryz.func19, Tryz.ntmps19
  go_upto_region 1 with fail
  rw [show ((w.alloc (.cells (rfV x t).toArray 54)).alloc (.cells #[.int .u8 0, .int .u32 0, .string ⟨#[]⟩, .int .u16 0, .int .i32 0, .int .i32 0, .int .i32 0, .int .u8 0, .string ⟨#[]⟩, .string ⟨#[]⟩, .string ⟨#[]⟩, .slice none 0 0, .string ⟨#[]⟩, .slice none 0 0, .int .i64 0, .string ⟨#[]⟩, .string ⟨#[]⟩, .string ⟨#[]⟩, .string ⟨#[]⟩, .int .u32 0, .string ⟨#[]⟩, .string ⟨#[]⟩, .string ⟨#[]⟩, .string ⟨#[]⟩, .slice none 0 0, .int .u32 0, .string ⟨#[]⟩] 54)) = w1 from HW.out.symm]
  have hlx : w.heap.size < w1.heap.size := by have := HSZ.out; omega
  have hly : w.heap.size + 1 < w1.heap.size := by have := HSZ.out; omega
  go_upto_region 57 with fail
  have HX3 := HX1
  have HY3 := HY1
  have HB3 := HB1
  have HR3 := Lib.hid (goesRf.after HR.out HB1.out)
  go_wp2_with (first | (refine wpList_loadB HX3.out (by rfl) 54 _ (by rfl) (by rfl) _ Tryz.underlying54 rfl (by kernel_rfl) ?_) | (refine wpList_storeB HY3.out (by rfl) 54 _ _ (by rfl) 0 (rfV x t) (by rfl) (by rfl) (by kernel_rfl) (by show 0 + 27 ≤ 27; decide) (by rfl) ?_; intro w9 hb9 hg9; have HY9 := Lib.hid hb9; have HG9 := Lib.hid hg9; clear hb9 hg9))
  refine bodyPost_ret (results_box3 (vs := rfV x t) rfl HY9.out (by rfl) (by rfl) (by rfl) _ Tryz.underlying54 rfl (by kernel_rfl)) rfl ?_
  have hgz := HG9.out.size
  have HB9 : Below w.heap.size w w9 := Below.trans HB3.out (below_of_grown' HG9.out (by omega) HB3.out.size)
  have hxe := HX.out x (bs.drop a)
  refine ⟨x, t, a, by rw [hxe]; rfl, goesRf.mono (goesRf.keep HR3.out HG9.out.size fun b hb hl => HG9.out.block b hl (fun e => by have := hb.2; injection e with e; omega)) (fun b hb _ => .inl hb.1), fun y rest h => ?_, by rw [hxe]; exact AtR.ok (by have := hln.out; omega) rfl, HB9⟩
  rw [hxe] at h
  injection h with h; injection h with h _; exact h.symm
theorem rrd_any {L : Nat} {S S2 : Nat → Prop} {A : Option Addr} {m c a : Nat} {bs : B} {x : Rf} {t : Tfs} {w : World} (hs : Sl S w A m c bs) (hm : m ≤ 140737488355328) (ha : a ≤ m) (hR : RfR S2 w x t) :
    Calls Tryz.prog 19 #[.agg (rfV x t).toArray, .int .u8 ((L : Nat) : Int), .slice A m c, .int .i64 (a : Int)] w fun e w' => RdP S2 w bs (readL L x (bs.drop a)) e w' := by
  by_cases l99 : L = 99
  · subst l99; exact rrd_c hs hm ha hR
  by_cases l107 : L = 107
  · subst l107; exact rrd_k hs hm ha hR
  by_cases l116 : L = 116
  · subst l116; exact rrd_t hs hm ha hR
  by_cases l108 : L = 108
  · subst l108; exact rrd_l hs hm ha hR
  by_cases l114 : L = 114
  · subst l114; exact rrd_r hs hm ha hR
  by_cases l110 : L = 110
  · subst l110; exact rrd_n hs hm ha hR
  by_cases l102 : L = 102
  · subst l102; exact rrd_f hs hm ha hR
  by_cases l100 : L = 100
  · subst l100; exact rrd_d hs hm ha hR
  by_cases l119 : L = 119
  · subst l119; exact rrd_w hs hm ha hR
  by_cases l115 : L = 115
  · subst l115; exact rrd_s hs hm ha hR
  by_cases l101 : L = 101
  · subst l101; exact rrd_e hs hm ha hR
  by_cases l97 : L = 97
  · subst l97; exact rrd_a hs hm ha hR
  by_cases l105 : L = 105
  · subst l105; exact rrd_i hs hm ha hR
  by_cases l109 : L = 109
  · subst l109; exact rrd_m hs hm ha hR
  by_cases l118 : L = 118
  · subst l118; exact rrd_v hs hm ha hR
  by_cases l69 : L = 69
  · subst l69; exact rrd_E hs hm ha hR
  by_cases l72 : L = 72
  · subst l72; exact rrd_H hs hm ha hR
  by_cases l65 : L = 65
  · subst l65; exact rrd_A hs hm ha hR
  by_cases l82 : L = 82
  · subst l82; exact rrd_R hs hm ha hR
  by_cases l87 : L = 87
  · subst l87; exact rrd_W hs hm ha hR
  by_cases l84 : L = 84
  · subst l84; exact rrd_T hs hm ha hR
  by_cases l83 : L = 83
  · subst l83; exact rrd_S hs hm ha hR
  by_cases l78 : L = 78
  · subst l78; exact rrd_N hs hm ha hR
  by_cases l71 : L = 71
  · subst l71; exact rrd_G hs hm ha hR
  exact rrd_no hs hm ha ⟨l99, l107, l116, l108, l114, l110, l102, l100, l119, l115, l101, l97, l105, l109, l118, l69, l72, l65, l82, l87, l84, l83, l78, l71⟩ hR

set_option maxHeartbeats 4000000 in
set_option maxRecDepth 100000 in
theorem rwr_no {L : Nat} {x : Rf} {t : Tfs} {w : World} (hL : L ≠ 99 ∧ L ≠ 107 ∧ L ≠ 116 ∧ L ≠ 108 ∧ L ≠ 114 ∧ L ≠ 110 ∧ L ≠ 102 ∧ L ≠ 100 ∧ L ≠ 119 ∧ L ≠ 115 ∧ L ≠ 101 ∧ L ≠ 97 ∧ L ≠ 105 ∧ L ≠ 109 ∧ L ≠ 118 ∧ L ≠ 69 ∧ L ≠ 72 ∧ L ≠ 65 ∧ L ≠ 82 ∧ L ≠ 87 ∧ L ≠ 84 ∧ L ≠ 83 ∧ L ≠ 78 ∧ L ≠ 71) :
    Calls Tryz.prog 16 #[.agg (rfV x t).toArray, .int .u8 ((L : Nat) : Int)] w fun e w' => WrP w (writeL L x) e w' := by
  obtain ⟨l99, l107, l116, l108, l114, l110, l102, l100, l119, l115, l101, l97, l105, l109, l118, l69, l72, l65, l82, l87, l84, l83, l78, l71⟩ := hL
  have n99 : ((L : Int) == 99) = false := beq_eq_false_iff_ne.2 (by omega)
  have n107 : ((L : Int) == 107) = false := beq_eq_false_iff_ne.2 (by omega)
  have n116 : ((L : Int) == 116) = false := beq_eq_false_iff_ne.2 (by omega)
  have n108 : ((L : Int) == 108) = false := beq_eq_false_iff_ne.2 (by omega)
  have n114 : ((L : Int) == 114) = false := beq_eq_false_iff_ne.2 (by omega)
  have n110 : ((L : Int) == 110) = false := beq_eq_false_iff_ne.2 (by omega)
  have n102 : ((L : Int) == 102) = false := beq_eq_false_iff_ne.2 (by omega)
  have n100 : ((L : Int) == 100) = false := beq_eq_false_iff_ne.2 (by omega)
  have n119 : ((L : Int) == 119) = false := beq_eq_false_iff_ne.2 (by omega)
  have n115 : ((L : Int) == 115) = false := beq_eq_false_iff_ne.2 (by omega)
  have n101 : ((L : Int) == 101) = false := beq_eq_false_iff_ne.2 (by omega)
  have n97 : ((L : Int) == 97) = false := beq_eq_false_iff_ne.2 (by omega)
  have n105 : ((L : Int) == 105) = false := beq_eq_false_iff_ne.2 (by omega)
  have n109 : ((L : Int) == 109) = false := beq_eq_false_iff_ne.2 (by omega)
  have n118 : ((L : Int) == 118) = false := beq_eq_false_iff_ne.2 (by omega)
  have n69 : ((L : Int) == 69) = false := beq_eq_false_iff_ne.2 (by omega)
  have n72 : ((L : Int) == 72) = false := beq_eq_false_iff_ne.2 (by omega)
  have n65 : ((L : Int) == 65) = false := beq_eq_false_iff_ne.2 (by omega)
  have n82 : ((L : Int) == 82) = false := beq_eq_false_iff_ne.2 (by omega)
  have n87 : ((L : Int) == 87) = false := beq_eq_false_iff_ne.2 (by omega)
  have n84 : ((L : Int) == 84) = false := beq_eq_false_iff_ne.2 (by omega)
  have n83 : ((L : Int) == 83) = false := beq_eq_false_iff_ne.2 (by omega)
  have n78 : ((L : Int) == 78) = false := beq_eq_false_iff_ne.2 (by omega)
  have n71 : ((L : Int) == 71) = false := beq_eq_false_iff_ne.2 (by omega)
  have HX : Hid (writeL L x = .ok []) := Lib.hid (by unfold writeL; simp only [l99, l107, l116, l108, l114, l110, l102, l100, l119, l115, l101, l97, l105, l109, l118, l69, l72, l65, l82, l87, l84, l83, l78, l71, if_false])
  clear l99 l107 l116 l108 l114 l110 l102 l100 l119 l115 l101 l97 l105 l109 l118 l69 l72 l65 l82 l87 l84 l83 l78 l71
  obtain ⟨vs, hvs⟩ : ∃ vs, vs = rfV x t := ⟨_, rfl⟩
  rw [← hvs]
  clear hvs
  obtain ⟨w1, hw1⟩ : ∃ w1, w1 = w.alloc (.cells vs.toArray 54) := ⟨_, rfl⟩
  have HB1 : Hid (Below w.heap.size w w1) := Lib.hid (by rw [hw1]; exact (Below.refl _ _).alloc (Nat.le_refl _) _)
  have HW := Lib.hid hw1; clear hw1
  go_enter Tryz.func16, Tryz.ntmps16
  go_upto_region 1 with fail
  rw [show w.alloc (.cells vs.toArray 54) = w1 from HW.out.symm]
  go_wp2_with fail
  go_ret2
  rw [HX.out]
  exact ⟨none, 0, 0, rfl, Sl.nil, HB1.out⟩
theorem rwr_any {L : Nat} {x : Rf} {t : Tfs} {w : World} (hR : RfR (fun b => b < w.heap.size) w x t) (hB : RfB x) :
    Calls Tryz.prog 16 #[.agg (rfV x t).toArray, .int .u8 ((L : Nat) : Int)] w fun e w' => WrP w (writeL L x) e w' := by
  by_cases l99 : L = 99
  · subst l99; exact rwr_c hR hB
  by_cases l107 : L = 107
  · subst l107; exact rwr_k hR hB
  by_cases l116 : L = 116
  · subst l116; exact rwr_t hR hB
  by_cases l108 : L = 108
  · subst l108; exact rwr_l hR hB
  by_cases l114 : L = 114
  · subst l114; exact rwr_r hR hB
  by_cases l110 : L = 110
  · subst l110; exact rwr_n hR hB
  by_cases l102 : L = 102
  · subst l102; exact rwr_f hR hB
  by_cases l100 : L = 100
  · subst l100; exact rwr_d hR hB
  by_cases l119 : L = 119
  · subst l119; exact rwr_w hR hB
  by_cases l115 : L = 115
  · subst l115; exact rwr_s hR hB
  by_cases l101 : L = 101
  · subst l101; exact rwr_e hR hB
  by_cases l97 : L = 97
  · subst l97; exact rwr_a hR hB
  by_cases l105 : L = 105
  · subst l105; exact rwr_i hR hB
  by_cases l109 : L = 109
  · subst l109; exact rwr_m hR hB
  by_cases l118 : L = 118
  · subst l118; exact rwr_v hR hB
  by_cases l69 : L = 69
  · subst l69; exact rwr_E hR hB
  by_cases l72 : L = 72
  · subst l72; exact rwr_H hR hB
  by_cases l65 : L = 65
  · subst l65; exact rwr_A hR hB
  by_cases l82 : L = 82
  · subst l82; exact rwr_R hR hB
  by_cases l87 : L = 87
  · subst l87; exact rwr_W hR hB
  by_cases l84 : L = 84
  · subst l84; exact rwr_T hR hB
  by_cases l83 : L = 83
  · subst l83; exact rwr_S hR hB
  by_cases l78 : L = 78
  · subst l78; exact rwr_N hR hB
  by_cases l71 : L = 71
  · subst l71; exact rwr_G hR hB
  exact rwr_no ⟨l99, l107, l116, l108, l114, l110, l102, l100, l119, l115, l101, l97, l105, l109, l118, l69, l72, l65, l82, l87, l84, l83, l78, l71⟩
end Go.Proofs.Sb

/- A walk over signalboxref09.then. Conditions: none. (written by gen_ryc.py) -/
namespace Go.Proofs.Sb
open Go.RowKit _root_.Sb
set_option maxHeartbeats 1000000 in
set_option maxRecDepth 100000 in
theorem then_116 {S : Nat → Prop} {x : Rf} {t : Tfs} {w : World} (hR : RfR S w x t) :
    Calls Tryz.prog 15 #[.agg (rfV x t).toArray, .int .u8 116] w fun e w' => e = .returned (.tuple #[.string (str ((thenL 116 x).getD [])), .bool (thenL 116 x).isSome]) ∧ Below w.heap.size w w' := by
  clear hR
  obtain ⟨vs, hvs⟩ : ∃ vs, vs = rfV x t := ⟨_, rfl⟩
  have v0 : vs[0]? = some (.int .u8 ((x.opcode : Nat) : Int)) := by rw [hvs]; rfl
  have v1 : vs[1]? = some (.int .u32 ((x.code : Nat) : Int)) := by rw [hvs]; rfl
  have v16 : vs[16]? = some (.string (str x.event)) := by rw [hvs]; rfl
  have v17 : vs[17]? = some (.string (str x.what)) := by rw [hvs]; rfl
  have v20 : vs[20]? = some (.string (str x.change.what)) := by rw [hvs]; rfl
  have v21 : vs[21]? = some (.string (str x.change.target)) := by rw [hvs]; rfl
  have v25 : vs[25]? = some (.int .u32 ((x.kind : Nat) : Int)) := by rw [hvs]; rfl
  rw [← hvs]
  clear hvs
  obtain ⟨w1, hw1⟩ : ∃ w1, w1 = w.alloc (.cells vs.toArray 54) := ⟨_, rfl⟩
  have hB1 : Below w.heap.size w w1 := by rw [hw1]; exact (Below.refl _ _).alloc (Nat.le_refl _) _
  have hbx : Bx (fun b => b = w.heap.size) w1 w.heap.size vs := by rw [hw1]; exact Bx.alloc w vs.toArray 54 (S := fun b => b = w.heap.size) rfl rfl
  have k0 := hbx.c 0 _ v0
  have k1 := hbx.c 1 _ v1
  have k16 := hbx.c 16 _ v16
  have k17 := hbx.c 17 _ v17
  have k20 := hbx.c 20 _ v20
  have k21 := hbx.c 21 _ v21
  have k25 := hbx.c 25 _ v25
  have HB1 := Lib.hid hB1
  clear hbx hB1 v0 v1 v16 v17 v20 v21 v25
  have HW := Lib.hid hw1
  clear hw1
  obtain ⟨op, hop⟩ : ∃ q, x.opcode = q := ⟨_, rfl⟩
  obtain ⟨cd, hcd⟩ : ∃ q, x.code = q := ⟨_, rfl⟩
  obtain ⟨ev, hev⟩ : ∃ q, x.event = q := ⟨_, rfl⟩
  obtain ⟨wt, hwt⟩ : ∃ q, x.what = q := ⟨_, rfl⟩
  obtain ⟨cw, hcw⟩ : ∃ q, x.change.what = q := ⟨_, rfl⟩
  obtain ⟨tg, htg⟩ : ∃ q, x.change.target = q := ⟨_, rfl⟩
  obtain ⟨kd, hkd⟩ : ∃ q, x.kind = q := ⟨_, rfl⟩
  rw [hop] at k0
  rw [hcd] at k1
  rw [hev] at k16
  rw [hwt] at k17
  rw [hcw] at k20
  rw [htg] at k21
  rw [hkd] at k25
  have E0 := Lib.hid hop; have E1 := Lib.hid hcd; have E16 := Lib.hid hev; have E17 := Lib.hid hwt; have E20 := Lib.hid hcw; have E21 := Lib.hid htg; have E25 := Lib.hid hkd
  clear hop hcd hev hwt hcw htg hkd
  · skip
    by_cases h0 : op = 0
    · have HX : Hid (thenL 116 x = some (fpL cd)) := Lib.hid (by rw [then_t, E0.out, if_pos h0, E1.out])
      subst h0
      clear k16 k17 k20 k21 k25
      go_enter Tryz.func15, Tryz.ntmps15
      go_upto_region 1 with fail
      rw [← HW.out]
      go_wp2_with fail
      refine (faultParts_any (c := cd)).mono ?_
      rintro e w2 ⟨rfl, rfl⟩
      go_wp2_with fail
      go_ret2
      exact ⟨by rw [HX.out]; rfl, HB1.out⟩
    · have HX : Hid (thenL 116 x = some []) := Lib.hid (by rw [then_t, E0.out, if_neg h0])
      have n0 : ((op : Int) == 0) = false := beq_eq_false_iff_ne.2 (by omega)
      clear h0
      clear k1 k16 k17 k20 k21 k25
      go_enter Tryz.func15, Tryz.ntmps15
      go_upto_region 1 with fail
      rw [← HW.out]
      go_wp2_with fail
      go_ret2
      exact ⟨by rw [HX.out]; rfl, HB1.out⟩
set_option maxHeartbeats 1000000 in
set_option maxRecDepth 100000 in
theorem then_107 {S : Nat → Prop} {x : Rf} {t : Tfs} {w : World} (hR : RfR S w x t) :
    Calls Tryz.prog 15 #[.agg (rfV x t).toArray, .int .u8 107] w fun e w' => e = .returned (.tuple #[.string (str ((thenL 107 x).getD [])), .bool (thenL 107 x).isSome]) ∧ Below w.heap.size w w' := by
  clear hR
  obtain ⟨vs, hvs⟩ : ∃ vs, vs = rfV x t := ⟨_, rfl⟩
  have v0 : vs[0]? = some (.int .u8 ((x.opcode : Nat) : Int)) := by rw [hvs]; rfl
  have v1 : vs[1]? = some (.int .u32 ((x.code : Nat) : Int)) := by rw [hvs]; rfl
  have v16 : vs[16]? = some (.string (str x.event)) := by rw [hvs]; rfl
  have v17 : vs[17]? = some (.string (str x.what)) := by rw [hvs]; rfl
  have v20 : vs[20]? = some (.string (str x.change.what)) := by rw [hvs]; rfl
  have v21 : vs[21]? = some (.string (str x.change.target)) := by rw [hvs]; rfl
  have v25 : vs[25]? = some (.int .u32 ((x.kind : Nat) : Int)) := by rw [hvs]; rfl
  rw [← hvs]
  clear hvs
  obtain ⟨w1, hw1⟩ : ∃ w1, w1 = w.alloc (.cells vs.toArray 54) := ⟨_, rfl⟩
  have hB1 : Below w.heap.size w w1 := by rw [hw1]; exact (Below.refl _ _).alloc (Nat.le_refl _) _
  have hbx : Bx (fun b => b = w.heap.size) w1 w.heap.size vs := by rw [hw1]; exact Bx.alloc w vs.toArray 54 (S := fun b => b = w.heap.size) rfl rfl
  have k0 := hbx.c 0 _ v0
  have k1 := hbx.c 1 _ v1
  have k16 := hbx.c 16 _ v16
  have k17 := hbx.c 17 _ v17
  have k20 := hbx.c 20 _ v20
  have k21 := hbx.c 21 _ v21
  have k25 := hbx.c 25 _ v25
  have HB1 := Lib.hid hB1
  clear hbx hB1 v0 v1 v16 v17 v20 v21 v25
  have HW := Lib.hid hw1
  clear hw1
  obtain ⟨op, hop⟩ : ∃ q, x.opcode = q := ⟨_, rfl⟩
  obtain ⟨cd, hcd⟩ : ∃ q, x.code = q := ⟨_, rfl⟩
  obtain ⟨ev, hev⟩ : ∃ q, x.event = q := ⟨_, rfl⟩
  obtain ⟨wt, hwt⟩ : ∃ q, x.what = q := ⟨_, rfl⟩
  obtain ⟨cw, hcw⟩ : ∃ q, x.change.what = q := ⟨_, rfl⟩
  obtain ⟨tg, htg⟩ : ∃ q, x.change.target = q := ⟨_, rfl⟩
  obtain ⟨kd, hkd⟩ : ∃ q, x.kind = q := ⟨_, rfl⟩
  rw [hop] at k0
  rw [hcd] at k1
  rw [hev] at k16
  rw [hwt] at k17
  rw [hcw] at k20
  rw [htg] at k21
  rw [hkd] at k25
  have E0 := Lib.hid hop; have E1 := Lib.hid hcd; have E16 := Lib.hid hev; have E17 := Lib.hid hwt; have E20 := Lib.hid hcw; have E21 := Lib.hid htg; have E25 := Lib.hid hkd
  clear hop hcd hev hwt hcw htg hkd
  · skip
    by_cases d1 : kd = 1
    · have HX : Hid (thenL 107 x = some []) := Lib.hid (by rw [then_k, E25.out, d1]; rfl)
      subst d1
      clear k0 k1 k16 k17 k20 k21
      go_enter Tryz.func15, Tryz.ntmps15
      go_upto_region 1 with fail
      rw [← HW.out]
      go_wp2_with fail
      go_ret2
      exact ⟨by rw [HX.out]; rfl, HB1.out⟩
    by_cases d2 : kd = 2
    · have HX : Hid (thenL 107 x = some [82]) := Lib.hid (by rw [then_k, E25.out, d2]; rfl)
      subst d2
      clear k0 k1 k16 k17 k20 k21
      go_enter Tryz.func15, Tryz.ntmps15
      go_upto_region 1 with fail
      rw [← HW.out]
      go_wp2_with fail
      go_ret2
      exact ⟨by rw [HX.out]; rfl, HB1.out⟩
    by_cases d3 : kd = 3
    · have HX : Hid (thenL 107 x = some [116]) := Lib.hid (by rw [then_k, E25.out, d3]; rfl)
      subst d3
      clear k0 k1 k16 k17 k20 k21
      go_enter Tryz.func15, Tryz.ntmps15
      go_upto_region 1 with fail
      rw [← HW.out]
      go_wp2_with fail
      go_ret2
      exact ⟨by rw [HX.out]; rfl, HB1.out⟩
    by_cases d4 : kd = 4
    · have HX : Hid (thenL 107 x = some [105, 82]) := Lib.hid (by rw [then_k, E25.out, d4]; rfl)
      subst d4
      clear k0 k1 k16 k17 k20 k21
      go_enter Tryz.func15, Tryz.ntmps15
      go_upto_region 1 with fail
      rw [← HW.out]
      go_wp2_with fail
      go_ret2
      exact ⟨by rw [HX.out]; rfl, HB1.out⟩
    by_cases d5 : kd = 5
    · have HX : Hid (thenL 107 x = some [87, 84, 83, 88]) := Lib.hid (by rw [then_k, E25.out, d5]; rfl)
      subst d5
      clear k0 k1 k16 k17 k20 k21
      go_enter Tryz.func15, Tryz.ntmps15
      go_upto_region 1 with fail
      rw [← HW.out]
      go_wp2_with fail
      go_ret2
      exact ⟨by rw [HX.out]; rfl, HB1.out⟩
    have HX : Hid (thenL 107 x = none) := Lib.hid (by rw [then_k, E25.out, if_neg d1, if_neg d2, if_neg d3, if_neg d4, if_neg d5])
    have m1 : ((kd : Int) == 1) = false := beq_eq_false_iff_ne.2 (by omega)
    have m2 : ((kd : Int) == 2) = false := beq_eq_false_iff_ne.2 (by omega)
    have m3 : ((kd : Int) == 3) = false := beq_eq_false_iff_ne.2 (by omega)
    have m4 : ((kd : Int) == 4) = false := beq_eq_false_iff_ne.2 (by omega)
    have m5 : ((kd : Int) == 5) = false := beq_eq_false_iff_ne.2 (by omega)
    clear d1 d2 d3 d4 d5
    clear k0 k1 k16 k17 k20 k21
    go_enter Tryz.func15, Tryz.ntmps15
    go_upto_region 1 with fail
    rw [← HW.out]
    go_wp2_with fail
    go_ret2
    exact ⟨by rw [HX.out]; rfl, HB1.out⟩
set_option maxHeartbeats 1000000 in
set_option maxRecDepth 100000 in
theorem then_69 {S : Nat → Prop} {x : Rf} {t : Tfs} {w : World} (hR : RfR S w x t) :
    Calls Tryz.prog 15 #[.agg (rfV x t).toArray, .int .u8 69] w fun e w' => e = .returned (.tuple #[.string (str ((thenL 69 x).getD [])), .bool (thenL 69 x).isSome]) ∧ Below w.heap.size w w' := by
  clear hR
  obtain ⟨vs, hvs⟩ : ∃ vs, vs = rfV x t := ⟨_, rfl⟩
  have v0 : vs[0]? = some (.int .u8 ((x.opcode : Nat) : Int)) := by rw [hvs]; rfl
  have v1 : vs[1]? = some (.int .u32 ((x.code : Nat) : Int)) := by rw [hvs]; rfl
  have v16 : vs[16]? = some (.string (str x.event)) := by rw [hvs]; rfl
  have v17 : vs[17]? = some (.string (str x.what)) := by rw [hvs]; rfl
  have v20 : vs[20]? = some (.string (str x.change.what)) := by rw [hvs]; rfl
  have v21 : vs[21]? = some (.string (str x.change.target)) := by rw [hvs]; rfl
  have v25 : vs[25]? = some (.int .u32 ((x.kind : Nat) : Int)) := by rw [hvs]; rfl
  rw [← hvs]
  clear hvs
  obtain ⟨w1, hw1⟩ : ∃ w1, w1 = w.alloc (.cells vs.toArray 54) := ⟨_, rfl⟩
  have hB1 : Below w.heap.size w w1 := by rw [hw1]; exact (Below.refl _ _).alloc (Nat.le_refl _) _
  have hbx : Bx (fun b => b = w.heap.size) w1 w.heap.size vs := by rw [hw1]; exact Bx.alloc w vs.toArray 54 (S := fun b => b = w.heap.size) rfl rfl
  have k0 := hbx.c 0 _ v0
  have k1 := hbx.c 1 _ v1
  have k16 := hbx.c 16 _ v16
  have k17 := hbx.c 17 _ v17
  have k20 := hbx.c 20 _ v20
  have k21 := hbx.c 21 _ v21
  have k25 := hbx.c 25 _ v25
  have HB1 := Lib.hid hB1
  clear hbx hB1 v0 v1 v16 v17 v20 v21 v25
  have HW := Lib.hid hw1
  clear hw1
  obtain ⟨op, hop⟩ : ∃ q, x.opcode = q := ⟨_, rfl⟩
  obtain ⟨cd, hcd⟩ : ∃ q, x.code = q := ⟨_, rfl⟩
  obtain ⟨ev, hev⟩ : ∃ q, x.event = q := ⟨_, rfl⟩
  obtain ⟨wt, hwt⟩ : ∃ q, x.what = q := ⟨_, rfl⟩
  obtain ⟨cw, hcw⟩ : ∃ q, x.change.what = q := ⟨_, rfl⟩
  obtain ⟨tg, htg⟩ : ∃ q, x.change.target = q := ⟨_, rfl⟩
  obtain ⟨kd, hkd⟩ : ∃ q, x.kind = q := ⟨_, rfl⟩
  rw [hop] at k0
  rw [hcd] at k1
  rw [hev] at k16
  rw [hwt] at k17
  rw [hcw] at k20
  rw [htg] at k21
  rw [hkd] at k25
  have E0 := Lib.hid hop; have E1 := Lib.hid hcd; have E16 := Lib.hid hev; have E17 := Lib.hid hwt; have E20 := Lib.hid hcw; have E21 := Lib.hid htg; have E25 := Lib.hid hkd
  clear hop hcd hev hwt hcw htg hkd
  · skip
    by_cases d1 : ev = wTopology
    · have HX : Hid (thenL 69 x = some [72, 65]) := Lib.hid (by rw [then_E, E16.out, if_pos (.inl d1)])
      have m1 : (ev == [84, 79, 80, 79, 76, 79, 71, 89, 95, 67, 72, 65, 78, 71, 69]) = true := by rw [d1]; decide
      clear d1
      clear k0 k1 k17 k20 k21 k25
      go_enter Tryz.func15, Tryz.ntmps15
      go_upto_region 1 with fail
      rw [← HW.out]
      go_wp2_with fail
      go_ret2
      exact ⟨by rw [HX.out]; rfl, HB1.out⟩
    have m1 : (ev == [84, 79, 80, 79, 76, 79, 71, 89, 95, 67, 72, 65, 78, 71, 69]) = false := beq_eq_false_iff_ne.2 d1
    by_cases d2 : ev = wStatus
    · have HX : Hid (thenL 69 x = some [72, 65]) := Lib.hid (by rw [then_E, E16.out, if_pos (.inr d2)])
      have m2 : (ev == [83, 84, 65, 84, 85, 83, 95, 67, 72, 65, 78, 71, 69]) = true := by rw [d2]; decide
      clear d1 d2
      clear k0 k1 k17 k20 k21 k25
      go_enter Tryz.func15, Tryz.ntmps15
      go_upto_region 1 with fail
      rw [← HW.out]
      go_wp2_with fail
      go_ret2
      exact ⟨by rw [HX.out]; rfl, HB1.out⟩
    have m2 : (ev == [83, 84, 65, 84, 85, 83, 95, 67, 72, 65, 78, 71, 69]) = false := beq_eq_false_iff_ne.2 d2
    by_cases d3 : ev = wSchema
    · have HX : Hid (thenL 69 x = some [87, 84, 83, 88]) := Lib.hid (by rw [then_E, E16.out, if_neg (fun h => h.elim d1 d2), if_pos d3])
      have m3 : (ev == [83, 67, 72, 69, 77, 65, 95, 67, 72, 65, 78, 71, 69]) = true := by rw [d3]; decide
      clear d1 d2 d3
      clear k0 k1 k17 k20 k21 k25
      go_enter Tryz.func15, Tryz.ntmps15
      go_upto_region 1 with fail
      rw [← HW.out]
      go_wp2_with fail
      go_ret2
      exact ⟨by rw [HX.out]; rfl, HB1.out⟩
    have m3 : (ev == [83, 67, 72, 69, 77, 65, 95, 67, 72, 65, 78, 71, 69]) = false := beq_eq_false_iff_ne.2 d3
    have HX : Hid (thenL 69 x = none) := Lib.hid (by rw [then_E, E16.out, if_neg (fun h => h.elim d1 d2), if_neg d3])
    clear d1 d2 d3
    clear k0 k1 k17 k20 k21 k25
    go_enter Tryz.func15, Tryz.ntmps15
    go_upto_region 1 with fail
    rw [← HW.out]
    go_wp2_with fail
    go_ret2
    exact ⟨by rw [HX.out]; rfl, HB1.out⟩
set_option maxHeartbeats 1000000 in
set_option maxRecDepth 100000 in
theorem then_72 {S : Nat → Prop} {x : Rf} {t : Tfs} {w : World} (hR : RfR S w x t) :
    Calls Tryz.prog 15 #[.agg (rfV x t).toArray, .int .u8 72] w fun e w' => e = .returned (.tuple #[.string (str ((thenL 72 x).getD [])), .bool (thenL 72 x).isSome]) ∧ Below w.heap.size w w' := by
  clear hR
  obtain ⟨vs, hvs⟩ : ∃ vs, vs = rfV x t := ⟨_, rfl⟩
  have v0 : vs[0]? = some (.int .u8 ((x.opcode : Nat) : Int)) := by rw [hvs]; rfl
  have v1 : vs[1]? = some (.int .u32 ((x.code : Nat) : Int)) := by rw [hvs]; rfl
  have v16 : vs[16]? = some (.string (str x.event)) := by rw [hvs]; rfl
  have v17 : vs[17]? = some (.string (str x.what)) := by rw [hvs]; rfl
  have v20 : vs[20]? = some (.string (str x.change.what)) := by rw [hvs]; rfl
  have v21 : vs[21]? = some (.string (str x.change.target)) := by rw [hvs]; rfl
  have v25 : vs[25]? = some (.int .u32 ((x.kind : Nat) : Int)) := by rw [hvs]; rfl
  rw [← hvs]
  clear hvs
  obtain ⟨w1, hw1⟩ : ∃ w1, w1 = w.alloc (.cells vs.toArray 54) := ⟨_, rfl⟩
  have hB1 : Below w.heap.size w w1 := by rw [hw1]; exact (Below.refl _ _).alloc (Nat.le_refl _) _
  have hbx : Bx (fun b => b = w.heap.size) w1 w.heap.size vs := by rw [hw1]; exact Bx.alloc w vs.toArray 54 (S := fun b => b = w.heap.size) rfl rfl
  have k0 := hbx.c 0 _ v0
  have k1 := hbx.c 1 _ v1
  have k16 := hbx.c 16 _ v16
  have k17 := hbx.c 17 _ v17
  have k20 := hbx.c 20 _ v20
  have k21 := hbx.c 21 _ v21
  have k25 := hbx.c 25 _ v25
  have HB1 := Lib.hid hB1
  clear hbx hB1 v0 v1 v16 v17 v20 v21 v25
  have HW := Lib.hid hw1
  clear hw1
  obtain ⟨op, hop⟩ : ∃ q, x.opcode = q := ⟨_, rfl⟩
  obtain ⟨cd, hcd⟩ : ∃ q, x.code = q := ⟨_, rfl⟩
  obtain ⟨ev, hev⟩ : ∃ q, x.event = q := ⟨_, rfl⟩
  obtain ⟨wt, hwt⟩ : ∃ q, x.what = q := ⟨_, rfl⟩
  obtain ⟨cw, hcw⟩ : ∃ q, x.change.what = q := ⟨_, rfl⟩
  obtain ⟨tg, htg⟩ : ∃ q, x.change.target = q := ⟨_, rfl⟩
  obtain ⟨kd, hkd⟩ : ∃ q, x.kind = q := ⟨_, rfl⟩
  rw [hop] at k0
  rw [hcd] at k1
  rw [hev] at k16
  rw [hwt] at k17
  rw [hcw] at k20
  rw [htg] at k21
  rw [hkd] at k25
  have E0 := Lib.hid hop; have E1 := Lib.hid hcd; have E16 := Lib.hid hev; have E17 := Lib.hid hwt; have E20 := Lib.hid hcw; have E21 := Lib.hid htg; have E25 := Lib.hid hkd
  clear hop hcd hev hwt hcw htg hkd
  · skip
    by_cases d2 : ev = wStatus
    · have HX : Hid (thenL 72 x = boolL (decide (wt ∈ wdsU))) := Lib.hid (by rw [then_H, E16.out, if_pos d2, E17.out])
      have m2 : (ev == [83, 84, 65, 84, 85, 83, 95, 67, 72, 65, 78, 71, 69]) = true := by rw [d2]; decide
      clear d2
      clear k0 k1 k20 k21 k25
      go_enter Tryz.func15, Tryz.ntmps15
      go_upto_region 1 with fail
      rw [← HW.out]
      go_wp2_with fail
      refine (among_any (s := wt) (W := [85, 80, 32, 68, 79, 87, 78]) (by decide)).mono ?_
      rintro e w2 ⟨rfl, rfl⟩
      rw [sp_U]
      obtain ⟨β, hβ⟩ : ∃ β, decide (wt ∈ wdsU) = β := ⟨_, rfl⟩
      rw [hβ] at HX ⊢
      clear hβ
      go_wp2_with fail
      go_ret2
      exact ⟨by rw [HX.out]; cases β <;> rfl, HB1.out⟩
    · have HX : Hid (thenL 72 x = boolL (decide (wt ∈ wdsN))) := Lib.hid (by rw [then_H, E16.out, if_neg d2, E17.out])
      have m2 : (ev == [83, 84, 65, 84, 85, 83, 95, 67, 72, 65, 78, 71, 69]) = false := beq_eq_false_iff_ne.2 d2
      clear d2
      clear k0 k1 k20 k21 k25
      go_enter Tryz.func15, Tryz.ntmps15
      go_upto_region 1 with fail
      rw [← HW.out]
      go_wp2_with fail
      refine (among_any (s := wt) (W := [78, 69, 87, 95, 78, 79, 68, 69, 32, 82, 69, 77, 79, 86, 69, 68, 95, 78, 79, 68, 69, 32, 77, 79, 86, 69, 68, 95, 78, 79, 68, 69]) (by decide)).mono ?_
      rintro e w2 ⟨rfl, rfl⟩
      rw [sp_N]
      obtain ⟨β, hβ⟩ : ∃ β, decide (wt ∈ wdsN) = β := ⟨_, rfl⟩
      rw [hβ] at HX ⊢
      clear hβ
      go_wp2_with fail
      go_ret2
      exact ⟨by rw [HX.out]; cases β <;> rfl, HB1.out⟩
set_option maxHeartbeats 1000000 in
set_option maxRecDepth 100000 in
theorem then_87 {S : Nat → Prop} {x : Rf} {t : Tfs} {w : World} (hR : RfR S w x t) :
    Calls Tryz.prog 15 #[.agg (rfV x t).toArray, .int .u8 87] w fun e w' => e = .returned (.tuple #[.string (str ((thenL 87 x).getD [])), .bool (thenL 87 x).isSome]) ∧ Below w.heap.size w w' := by
  clear hR
  obtain ⟨vs, hvs⟩ : ∃ vs, vs = rfV x t := ⟨_, rfl⟩
  have v0 : vs[0]? = some (.int .u8 ((x.opcode : Nat) : Int)) := by rw [hvs]; rfl
  have v1 : vs[1]? = some (.int .u32 ((x.code : Nat) : Int)) := by rw [hvs]; rfl
  have v16 : vs[16]? = some (.string (str x.event)) := by rw [hvs]; rfl
  have v17 : vs[17]? = some (.string (str x.what)) := by rw [hvs]; rfl
  have v20 : vs[20]? = some (.string (str x.change.what)) := by rw [hvs]; rfl
  have v21 : vs[21]? = some (.string (str x.change.target)) := by rw [hvs]; rfl
  have v25 : vs[25]? = some (.int .u32 ((x.kind : Nat) : Int)) := by rw [hvs]; rfl
  rw [← hvs]
  clear hvs
  obtain ⟨w1, hw1⟩ : ∃ w1, w1 = w.alloc (.cells vs.toArray 54) := ⟨_, rfl⟩
  have hB1 : Below w.heap.size w w1 := by rw [hw1]; exact (Below.refl _ _).alloc (Nat.le_refl _) _
  have hbx : Bx (fun b => b = w.heap.size) w1 w.heap.size vs := by rw [hw1]; exact Bx.alloc w vs.toArray 54 (S := fun b => b = w.heap.size) rfl rfl
  have k0 := hbx.c 0 _ v0
  have k1 := hbx.c 1 _ v1
  have k16 := hbx.c 16 _ v16
  have k17 := hbx.c 17 _ v17
  have k20 := hbx.c 20 _ v20
  have k21 := hbx.c 21 _ v21
  have k25 := hbx.c 25 _ v25
  have HB1 := Lib.hid hB1
  clear hbx hB1 v0 v1 v16 v17 v20 v21 v25
  have HW := Lib.hid hw1
  clear hw1
  obtain ⟨op, hop⟩ : ∃ q, x.opcode = q := ⟨_, rfl⟩
  obtain ⟨cd, hcd⟩ : ∃ q, x.code = q := ⟨_, rfl⟩
  obtain ⟨ev, hev⟩ : ∃ q, x.event = q := ⟨_, rfl⟩
  obtain ⟨wt, hwt⟩ : ∃ q, x.what = q := ⟨_, rfl⟩
  obtain ⟨cw, hcw⟩ : ∃ q, x.change.what = q := ⟨_, rfl⟩
  obtain ⟨tg, htg⟩ : ∃ q, x.change.target = q := ⟨_, rfl⟩
  obtain ⟨kd, hkd⟩ : ∃ q, x.kind = q := ⟨_, rfl⟩
  rw [hop] at k0
  rw [hcd] at k1
  rw [hev] at k16
  rw [hwt] at k17
  rw [hcw] at k20
  rw [htg] at k21
  rw [hkd] at k25
  have E0 := Lib.hid hop; have E1 := Lib.hid hcd; have E16 := Lib.hid hev; have E17 := Lib.hid hwt; have E20 := Lib.hid hcw; have E21 := Lib.hid htg; have E25 := Lib.hid hkd
  clear hop hcd hev hwt hcw htg hkd
  · skip
    · have HX : Hid (thenL 87 x = boolL (decide (cw ∈ wdsW))) := Lib.hid (by rw [then_W, E20.out])
      clear k0 k1 k16 k17 k21 k25
      go_enter Tryz.func15, Tryz.ntmps15
      go_upto_region 1 with fail
      rw [← HW.out]
      go_wp2_with fail
      refine (among_any (s := cw) (W := [67, 82, 69, 65, 84, 69, 68, 32, 85, 80, 68, 65, 84, 69, 68, 32, 68, 82, 79, 80, 80, 69, 68]) (by decide)).mono ?_
      rintro e w2 ⟨rfl, rfl⟩
      rw [sp_W]
      obtain ⟨β, hβ⟩ : ∃ β, decide (cw ∈ wdsW) = β := ⟨_, rfl⟩
      rw [hβ] at HX ⊢
      clear hβ
      go_wp2_with fail
      go_ret2
      exact ⟨by rw [HX.out]; cases β <;> rfl, HB1.out⟩
set_option maxHeartbeats 1000000 in
set_option maxRecDepth 100000 in
theorem then_84 {S : Nat → Prop} {x : Rf} {t : Tfs} {w : World} (hR : RfR S w x t) :
    Calls Tryz.prog 15 #[.agg (rfV x t).toArray, .int .u8 84] w fun e w' => e = .returned (.tuple #[.string (str ((thenL 84 x).getD [])), .bool (thenL 84 x).isSome]) ∧ Below w.heap.size w w' := by
  clear hR
  obtain ⟨vs, hvs⟩ : ∃ vs, vs = rfV x t := ⟨_, rfl⟩
  have v0 : vs[0]? = some (.int .u8 ((x.opcode : Nat) : Int)) := by rw [hvs]; rfl
  have v1 : vs[1]? = some (.int .u32 ((x.code : Nat) : Int)) := by rw [hvs]; rfl
  have v16 : vs[16]? = some (.string (str x.event)) := by rw [hvs]; rfl
  have v17 : vs[17]? = some (.string (str x.what)) := by rw [hvs]; rfl
  have v20 : vs[20]? = some (.string (str x.change.what)) := by rw [hvs]; rfl
  have v21 : vs[21]? = some (.string (str x.change.target)) := by rw [hvs]; rfl
  have v25 : vs[25]? = some (.int .u32 ((x.kind : Nat) : Int)) := by rw [hvs]; rfl
  rw [← hvs]
  clear hvs
  obtain ⟨w1, hw1⟩ : ∃ w1, w1 = w.alloc (.cells vs.toArray 54) := ⟨_, rfl⟩
  have hB1 : Below w.heap.size w w1 := by rw [hw1]; exact (Below.refl _ _).alloc (Nat.le_refl _) _
  have hbx : Bx (fun b => b = w.heap.size) w1 w.heap.size vs := by rw [hw1]; exact Bx.alloc w vs.toArray 54 (S := fun b => b = w.heap.size) rfl rfl
  have k0 := hbx.c 0 _ v0
  have k1 := hbx.c 1 _ v1
  have k16 := hbx.c 16 _ v16
  have k17 := hbx.c 17 _ v17
  have k20 := hbx.c 20 _ v20
  have k21 := hbx.c 21 _ v21
  have k25 := hbx.c 25 _ v25
  have HB1 := Lib.hid hB1
  clear hbx hB1 v0 v1 v16 v17 v20 v21 v25
  have HW := Lib.hid hw1
  clear hw1
  obtain ⟨op, hop⟩ : ∃ q, x.opcode = q := ⟨_, rfl⟩
  obtain ⟨cd, hcd⟩ : ∃ q, x.code = q := ⟨_, rfl⟩
  obtain ⟨ev, hev⟩ : ∃ q, x.event = q := ⟨_, rfl⟩
  obtain ⟨wt, hwt⟩ : ∃ q, x.what = q := ⟨_, rfl⟩
  obtain ⟨cw, hcw⟩ : ∃ q, x.change.what = q := ⟨_, rfl⟩
  obtain ⟨tg, htg⟩ : ∃ q, x.change.target = q := ⟨_, rfl⟩
  obtain ⟨kd, hkd⟩ : ∃ q, x.kind = q := ⟨_, rfl⟩
  rw [hop] at k0
  rw [hcd] at k1
  rw [hev] at k16
  rw [hwt] at k17
  rw [hcw] at k20
  rw [htg] at k21
  rw [hkd] at k25
  have E0 := Lib.hid hop; have E1 := Lib.hid hcd; have E16 := Lib.hid hev; have E17 := Lib.hid hwt; have E20 := Lib.hid hcw; have E21 := Lib.hid htg; have E25 := Lib.hid hkd
  clear hop hcd hev hwt hcw htg hkd
  · skip
    · have HX : Hid (thenL 84 x = boolL (decide (tg ∈ wdsT))) := Lib.hid (by rw [then_T, E21.out])
      clear k0 k1 k16 k17 k20 k25
      go_enter Tryz.func15, Tryz.ntmps15
      go_upto_region 1 with fail
      rw [← HW.out]
      go_wp2_with fail
      refine (among_any (s := tg) (W := [75, 69, 89, 83, 80, 65, 67, 69, 32, 84, 65, 66, 76, 69, 32, 84, 89, 80, 69, 32, 70, 85, 78, 67, 84, 73, 79, 78, 32, 65, 71, 71, 82, 69, 71, 65, 84, 69]) (by decide)).mono ?_
      rintro e w2 ⟨rfl, rfl⟩
      rw [sp_T]
      obtain ⟨β, hβ⟩ : ∃ β, decide (tg ∈ wdsT) = β := ⟨_, rfl⟩
      rw [hβ] at HX ⊢
      clear hβ
      go_wp2_with fail
      go_ret2
      exact ⟨by rw [HX.out]; cases β <;> rfl, HB1.out⟩
set_option maxHeartbeats 1000000 in
set_option maxRecDepth 100000 in
theorem then_88 {S : Nat → Prop} {x : Rf} {t : Tfs} {w : World} (hR : RfR S w x t) :
    Calls Tryz.prog 15 #[.agg (rfV x t).toArray, .int .u8 88] w fun e w' => e = .returned (.tuple #[.string (str ((thenL 88 x).getD [])), .bool (thenL 88 x).isSome]) ∧ Below w.heap.size w w' := by
  clear hR
  obtain ⟨vs, hvs⟩ : ∃ vs, vs = rfV x t := ⟨_, rfl⟩
  have v0 : vs[0]? = some (.int .u8 ((x.opcode : Nat) : Int)) := by rw [hvs]; rfl
  have v1 : vs[1]? = some (.int .u32 ((x.code : Nat) : Int)) := by rw [hvs]; rfl
  have v16 : vs[16]? = some (.string (str x.event)) := by rw [hvs]; rfl
  have v17 : vs[17]? = some (.string (str x.what)) := by rw [hvs]; rfl
  have v20 : vs[20]? = some (.string (str x.change.what)) := by rw [hvs]; rfl
  have v21 : vs[21]? = some (.string (str x.change.target)) := by rw [hvs]; rfl
  have v25 : vs[25]? = some (.int .u32 ((x.kind : Nat) : Int)) := by rw [hvs]; rfl
  rw [← hvs]
  clear hvs
  obtain ⟨w1, hw1⟩ : ∃ w1, w1 = w.alloc (.cells vs.toArray 54) := ⟨_, rfl⟩
  have hB1 : Below w.heap.size w w1 := by rw [hw1]; exact (Below.refl _ _).alloc (Nat.le_refl _) _
  have hbx : Bx (fun b => b = w.heap.size) w1 w.heap.size vs := by rw [hw1]; exact Bx.alloc w vs.toArray 54 (S := fun b => b = w.heap.size) rfl rfl
  have k0 := hbx.c 0 _ v0
  have k1 := hbx.c 1 _ v1
  have k16 := hbx.c 16 _ v16
  have k17 := hbx.c 17 _ v17
  have k20 := hbx.c 20 _ v20
  have k21 := hbx.c 21 _ v21
  have k25 := hbx.c 25 _ v25
  have HB1 := Lib.hid hB1
  clear hbx hB1 v0 v1 v16 v17 v20 v21 v25
  have HW := Lib.hid hw1
  clear hw1
  obtain ⟨op, hop⟩ : ∃ q, x.opcode = q := ⟨_, rfl⟩
  obtain ⟨cd, hcd⟩ : ∃ q, x.code = q := ⟨_, rfl⟩
  obtain ⟨ev, hev⟩ : ∃ q, x.event = q := ⟨_, rfl⟩
  obtain ⟨wt, hwt⟩ : ∃ q, x.what = q := ⟨_, rfl⟩
  obtain ⟨cw, hcw⟩ : ∃ q, x.change.what = q := ⟨_, rfl⟩
  obtain ⟨tg, htg⟩ : ∃ q, x.change.target = q := ⟨_, rfl⟩
  obtain ⟨kd, hkd⟩ : ∃ q, x.kind = q := ⟨_, rfl⟩
  rw [hop] at k0
  rw [hcd] at k1
  rw [hev] at k16
  rw [hwt] at k17
  rw [hcw] at k20
  rw [htg] at k21
  rw [hkd] at k25
  have E0 := Lib.hid hop; have E1 := Lib.hid hcd; have E16 := Lib.hid hev; have E17 := Lib.hid hwt; have E20 := Lib.hid hcw; have E21 := Lib.hid htg; have E25 := Lib.hid hkd
  clear hop hcd hev hwt hcw htg hkd
  · skip
    by_cases d1 : tg ∈ wdsF
    · have HX : Hid (thenL 88 x = some [78, 71]) := Lib.hid (by rw [then_X, E21.out, if_pos d1])
      have HD := Lib.hid d1; clear d1
      clear k0 k1 k16 k17 k20 k25
      go_enter Tryz.func15, Tryz.ntmps15
      go_upto_region 1 with fail
      rw [← HW.out]
      go_wp2_with fail
      refine (among_any (s := tg) (W := [70, 85, 78, 67, 84, 73, 79, 78, 32, 65, 71, 71, 82, 69, 71, 65, 84, 69]) (by decide)).mono ?_
      rintro e w2 ⟨rfl, rfl⟩
      rw [sp_F]
      rw [decide_eq_true HD.out]
      go_wp2_with fail
      go_ret2
      exact ⟨by rw [HX.out]; rfl, HB1.out⟩
    have HD := Lib.hid d1
    by_cases d2 : tg = wKeyspace
    · have HX : Hid (thenL 88 x = some []) := Lib.hid (by rw [then_X, E21.out, if_neg d1, if_neg (fun h => h d2)])
      have m2 : (tg != [75, 69, 89, 83, 80, 65, 67, 69]) = false := by rw [d2]; decide
      have m3 : (tg == [75, 69, 89, 83, 80, 65, 67, 69]) = true := by rw [d2]; decide
      clear d1 d2
      clear k0 k1 k16 k17 k20 k25
      go_enter Tryz.func15, Tryz.ntmps15
      go_upto_region 1 with fail
      rw [← HW.out]
      go_wp2_with fail
      refine (among_any (s := tg) (W := [70, 85, 78, 67, 84, 73, 79, 78, 32, 65, 71, 71, 82, 69, 71, 65, 84, 69]) (by decide)).mono ?_
      rintro e w2 ⟨rfl, rfl⟩
      rw [sp_F]
      rw [decide_eq_false HD.out]
      go_wp2_with fail
      go_ret2
      exact ⟨by rw [HX.out]; rfl, HB1.out⟩
    · have HX : Hid (thenL 88 x = some [78]) := Lib.hid (by rw [then_X, E21.out, if_neg d1, if_pos d2])
      have m2 : (tg != [75, 69, 89, 83, 80, 65, 67, 69]) = true := bne_iff_ne.2 d2
      have m3 : (tg == [75, 69, 89, 83, 80, 65, 67, 69]) = false := beq_eq_false_iff_ne.2 d2
      clear d1 d2
      clear k0 k1 k16 k17 k20 k25
      go_enter Tryz.func15, Tryz.ntmps15
      go_upto_region 1 with fail
      rw [← HW.out]
      go_wp2_with fail
      refine (among_any (s := tg) (W := [70, 85, 78, 67, 84, 73, 79, 78, 32, 65, 71, 71, 82, 69, 71, 65, 84, 69]) (by decide)).mono ?_
      rintro e w2 ⟨rfl, rfl⟩
      rw [sp_F]
      rw [decide_eq_false HD.out]
      go_wp2_with fail
      go_ret2
      exact ⟨by rw [HX.out]; rfl, HB1.out⟩
set_option maxHeartbeats 1000000 in
set_option maxRecDepth 100000 in
theorem then_no {S : Nat → Prop} {L : Nat} {x : Rf} {t : Tfs} {w : World} (hR : RfR S w x t) (hL : L ≠ 116 ∧ L ≠ 107 ∧ L ≠ 69 ∧ L ≠ 72 ∧ L ≠ 87 ∧ L ≠ 84 ∧ L ≠ 88) :
    Calls Tryz.prog 15 #[.agg (rfV x t).toArray, .int .u8 ((L : Nat) : Int)] w fun e w' => e = .returned (.tuple #[.string (str ((thenL L x).getD [])), .bool (thenL L x).isSome]) ∧ Below w.heap.size w w' := by
  clear hR
  obtain ⟨vs, hvs⟩ : ∃ vs, vs = rfV x t := ⟨_, rfl⟩
  have v0 : vs[0]? = some (.int .u8 ((x.opcode : Nat) : Int)) := by rw [hvs]; rfl
  have v1 : vs[1]? = some (.int .u32 ((x.code : Nat) : Int)) := by rw [hvs]; rfl
  have v16 : vs[16]? = some (.string (str x.event)) := by rw [hvs]; rfl
  have v17 : vs[17]? = some (.string (str x.what)) := by rw [hvs]; rfl
  have v20 : vs[20]? = some (.string (str x.change.what)) := by rw [hvs]; rfl
  have v21 : vs[21]? = some (.string (str x.change.target)) := by rw [hvs]; rfl
  have v25 : vs[25]? = some (.int .u32 ((x.kind : Nat) : Int)) := by rw [hvs]; rfl
  rw [← hvs]
  clear hvs
  obtain ⟨w1, hw1⟩ : ∃ w1, w1 = w.alloc (.cells vs.toArray 54) := ⟨_, rfl⟩
  have hB1 : Below w.heap.size w w1 := by rw [hw1]; exact (Below.refl _ _).alloc (Nat.le_refl _) _
  have hbx : Bx (fun b => b = w.heap.size) w1 w.heap.size vs := by rw [hw1]; exact Bx.alloc w vs.toArray 54 (S := fun b => b = w.heap.size) rfl rfl
  have k0 := hbx.c 0 _ v0
  have k1 := hbx.c 1 _ v1
  have k16 := hbx.c 16 _ v16
  have k17 := hbx.c 17 _ v17
  have k20 := hbx.c 20 _ v20
  have k21 := hbx.c 21 _ v21
  have k25 := hbx.c 25 _ v25
  have HB1 := Lib.hid hB1
  clear hbx hB1 v0 v1 v16 v17 v20 v21 v25
  have HW := Lib.hid hw1
  clear hw1
  obtain ⟨op, hop⟩ : ∃ q, x.opcode = q := ⟨_, rfl⟩
  obtain ⟨cd, hcd⟩ : ∃ q, x.code = q := ⟨_, rfl⟩
  obtain ⟨ev, hev⟩ : ∃ q, x.event = q := ⟨_, rfl⟩
  obtain ⟨wt, hwt⟩ : ∃ q, x.what = q := ⟨_, rfl⟩
  obtain ⟨cw, hcw⟩ : ∃ q, x.change.what = q := ⟨_, rfl⟩
  obtain ⟨tg, htg⟩ : ∃ q, x.change.target = q := ⟨_, rfl⟩
  obtain ⟨kd, hkd⟩ : ∃ q, x.kind = q := ⟨_, rfl⟩
  rw [hop] at k0
  rw [hcd] at k1
  rw [hev] at k16
  rw [hwt] at k17
  rw [hcw] at k20
  rw [htg] at k21
  rw [hkd] at k25
  have E0 := Lib.hid hop; have E1 := Lib.hid hcd; have E16 := Lib.hid hev; have E17 := Lib.hid hwt; have E20 := Lib.hid hcw; have E21 := Lib.hid htg; have E25 := Lib.hid hkd
  clear hop hcd hev hwt hcw htg hkd
  obtain ⟨l116, l107, l69, l72, l87, l84, l88⟩ := hL
  have n116 : ((L : Int) == 116) = false := beq_eq_false_iff_ne.2 (by omega)
  have n107 : ((L : Int) == 107) = false := beq_eq_false_iff_ne.2 (by omega)
  have n69 : ((L : Int) == 69) = false := beq_eq_false_iff_ne.2 (by omega)
  have n72 : ((L : Int) == 72) = false := beq_eq_false_iff_ne.2 (by omega)
  have n87 : ((L : Int) == 87) = false := beq_eq_false_iff_ne.2 (by omega)
  have n84 : ((L : Int) == 84) = false := beq_eq_false_iff_ne.2 (by omega)
  have n88 : ((L : Int) == 88) = false := beq_eq_false_iff_ne.2 (by omega)
  have HX : Hid (thenL L x = some []) := Lib.hid (by unfold thenL; rw [if_neg l116, if_neg l107, if_neg l69, if_neg l72, if_neg l87, if_neg l84, if_neg l88])
  clear l116 l107 l69 l72 l87 l84 l88
  clear k0 k1 k16 k17 k20 k21 k25
  go_enter Tryz.func15, Tryz.ntmps15
  go_upto_region 1 with fail
  rw [← HW.out]
  go_wp2_with fail
  go_ret2
  exact ⟨by rw [HX.out]; rfl, HB1.out⟩
theorem then_any {S : Nat → Prop} {L : Nat} {x : Rf} {t : Tfs} {w : World} (hR : RfR S w x t) :
    Calls Tryz.prog 15 #[.agg (rfV x t).toArray, .int .u8 ((L : Nat) : Int)] w fun e w' => e = .returned (.tuple #[.string (str ((thenL L x).getD [])), .bool (thenL L x).isSome]) ∧ Below w.heap.size w w' := by
  by_cases l116 : L = 116
  · subst l116; exact then_116 hR
  by_cases l107 : L = 107
  · subst l107; exact then_107 hR
  by_cases l69 : L = 69
  · subst l69; exact then_69 hR
  by_cases l72 : L = 72
  · subst l72; exact then_72 hR
  by_cases l87 : L = 87
  · subst l87; exact then_87 hR
  by_cases l84 : L = 84
  · subst l84; exact then_84 hR
  by_cases l88 : L = 88
  · subst l88; exact then_88 hR
  exact then_no hR ⟨l116, l107, l69, l72, l87, l84, l88⟩
end Go.Proofs.Sb

/- The walk over signalboxref09.Get. Conditions: lengths up to 2^47. -/
namespace Sb
theorem fp_len (c : Nat) : (fpL c).length ≤ 5 := by
  unfold fpL
  repeat (first | (split; decide) | decide)
theorem then_len {l : Nat} {r : Rf} {m : B} (h : thenL l r = some m) : m.length ≤ 5 := by
  have hb : ∀ b, boolL b = some m → m.length ≤ 5 := fun b h => by cases b with | false => cases h | true => injection h with h; subst h; decide
  unfold thenL at h
  split at h
  · split at h
    · injection h with h; rw [← h]; exact fp_len _
    · injection h with h; subst h; decide
  split at h
  · repeat (split at h; injection h with h; subst h; decide)
    cases h
  split at h
  · repeat (split at h; injection h with h; subst h; decide)
    cases h
  split at h
  · split at h <;> exact hb _ h
  split at h
  · exact hb _ h
  split at h
  · exact hb _ h
  split at h
  · split at h
    · injection h with h; subst h; decide
    · split at h <;> (injection h with h; subst h; decide)
  · injection h with h; subst h; decide
theorem first_len {op : Nat} {m : B} (h : firstL op = some m) : m.length ≤ 5 := by
  unfold firstL at h
  repeat (split at h; injection h with h; subst h; decide)
  cases h
def rfX : Except Int Rf → Rf | .ok x => x | .error _ => Rf.none
def erX : Except Int Rf → Int | .ok _ => 0 | .error e => e
theorem getRf_no0 {op : Nat} {b : B} : getRf op b ≠ .error 0 := by
  rw [getRf_eq]
  intro h
  cases hg : getRp op b with
  | ok x => rw [hg] at h; cases h
  | error e =>
    rw [hg] at h
    injection h with h
    exact getRp_ne hg h
theorem take_drop_next {l : B} {k : Nat} {c : UInt8} {ls : B} (h : l.drop k = c :: ls) : l[k]? = some c ∧ l.drop (k + 1) = ls ∧ k < l.length := by
  have hk : k < l.length := by
    rcases Nat.lt_or_ge k l.length with h1 | h1
    · exact h1
    · rw [List.drop_of_length_le h1] at h; cases h
  refine ⟨?_, ?_, hk⟩
  · have := congrArg List.head? h
    rw [List.head?_drop] at this
    simpa using this
  · rw [← List.drop_drop, h]; rfl
theorem next_drop {l m ls : B} {k : Nat} (hk : k < l.length) (h : l.drop (k + 1) = ls) : (l.take (k + 1) ++ m ++ l.drop (k + 1)).drop (k + 1) = m ++ ls := by
  rw [List.append_assoc, List.drop_append_of_le_length (by rw [List.length_take]; omega), List.drop_take, Nat.sub_self, List.take_zero, List.nil_append, h]
end Sb
namespace Go.Proofs.Sb
open Go.RowKit _root_.Sb
theorem run_to (W : B) (i : Nat) (h2 : i ≤ W.length) (w : World) : (Instr.slice 9 (.string (str W)) none (some (.int .i64 (i : Int))) none).run Tryz.prog w = .ok (.string (str (W.take i))) w := by
  rw [run_slice_string_h w 9 (str W) Tryz.underlying9 .i64 i (by omega) (by rw [str_size]; omega), str_extract]
  rfl
theorem run_from (W : B) (i : Nat) (h2 : i ≤ W.length) (w : World) : (Instr.slice 9 (.string (str W)) (some (.int .i64 (i : Int))) none none).run Tryz.prog w = .ok (.string (str (W.drop i))) w := by
  rw [run_slice_string_l w 9 (str W) Tryz.underlying9 .i64 i (by omega) (by rw [str_size]; omega), str_extract, str_size]
  rw [show (i : Int).toNat = i from rfl, List.take_of_length_le (by rw [List.length_drop]; exact Nat.le_refl _)]
theorem str_next (l m : B) (k : Nat) : (str l).extract 0 k ++ str m ++ (str l).extract k l.length = str (l.take k ++ m ++ l.drop k) := by
  rw [str_extract, str_extract, List.drop_zero, Nat.sub_zero, List.take_of_length_le (l := l.drop k) (by rw [List.length_drop]; exact Nat.le_refl _)]
  apply ByteArray.ext
  simp [str]
theorem run_addS (a b : B) (h : a.length + b.length ≤ 9223372036854775807) (w : World) : (Op.stringOp .add (str a) (str b)).run Tryz.prog w = .ok (.string (str (a ++ b))) w := by
  rw [run_string_add_sum w _ _ (by simpa using h)]
  have e : str a ++ str b = str (a ++ b) := by
    apply ByteArray.ext
    simp [str]
  rw [e]
set_option maxHeartbeats 8000000 in
set_option maxRecDepth 100000 in
theorem rGet9ref_any {S : Nat → Prop} {A : Option Addr} {m c op : Nat} {bs : B} {w : World} (hs : Sl S w A m c bs) (hm : m ≤ 140737488355328) (r : Except Int Rf) (hr : getRf op bs = r) :
    Calls Tryz.prog 11 #[.int .u8 ((op : Nat) : Int), .slice A m c] w fun e w' => ∃ t, e = .returned (.tuple #[.agg (rfV (rfX r) t).toArray, .int .i64 (erX r)]) ∧ RfR (fun b => w.heap.size ≤ b) w' (rfX r) t ∧ Below w.heap.size w w' := by
  have HLN := Lib.hid hs.len
  have hcp := hs.cap
  have hcm := hs.capMax
  have HS := Lib.hid hs.lt; clear hs
  have hn0 : r ≠ .error 0 := by rw [← hr]; exact getRf_no0
  have HN0 := Lib.hid hn0; clear hn0
  have HR := Lib.hid hr; clear hr
  have hrn : ∀ w', RfR (fun b => w.heap.size ≤ b) w' Rf.none .z := fun w' => ⟨Arr.nil, Arr.nil, Arr.nil⟩
  have HRN := Lib.hid hrn; clear hrn
  go_enter Tryz.func11, Tryz.ntmps11
  go_wp2_with (first | (refine wpList_built (by rfl) 54 _ (by rfl) (rfV (Rf.of op) .z).toArray (by kernel_rfl) ?_) | (refine wpList_store_new (by rfl) 54 _ _ (by rfl) _ _ _ _ (by rfl) (by rfl) (by simp) (by rfl) (by kernel_rfl) (by rfl) (by rfl) ?_; intro w1 hw1; have HW1 := Lib.hid hw1; clear hw1))
  have hw1 := HW1.out
  have b1 : Below w.heap.size w (w.alloc (.cells #[.int .u8 0, .int .u32 0, .string ⟨#[]⟩, .int .u16 0, .int .i32 0, .int .i32 0, .int .i32 0, .int .u8 0, .string ⟨#[]⟩, .string ⟨#[]⟩, .string ⟨#[]⟩, .slice none 0 0, .string ⟨#[]⟩, .slice none 0 0, .int .i64 0, .string ⟨#[]⟩, .string ⟨#[]⟩, .string ⟨#[]⟩, .string ⟨#[]⟩, .int .u32 0, .string ⟨#[]⟩, .string ⟨#[]⟩, .string ⟨#[]⟩, .string ⟨#[]⟩, .slice none 0 0, .int .u32 0, .string ⟨#[]⟩] 54)) := (Below.refl _ _).alloc (Nat.le_refl _) _
  have hz0 : (w.alloc (.cells #[.int .u8 0, .int .u32 0, .string ⟨#[]⟩, .int .u16 0, .int .i32 0, .int .i32 0, .int .i32 0, .int .u8 0, .string ⟨#[]⟩, .string ⟨#[]⟩, .string ⟨#[]⟩, .slice none 0 0, .string ⟨#[]⟩, .slice none 0 0, .int .i64 0, .string ⟨#[]⟩, .string ⟨#[]⟩, .string ⟨#[]⟩, .string ⟨#[]⟩, .int .u32 0, .string ⟨#[]⟩, .string ⟨#[]⟩, .string ⟨#[]⟩, .string ⟨#[]⟩, .slice none 0 0, .int .u32 0, .string ⟨#[]⟩] 54)).heap.size = w.heap.size + 1 := World.size_alloc _ _
  have b2 : Below (w.alloc (.cells #[.int .u8 0, .int .u32 0, .string ⟨#[]⟩, .int .u16 0, .int .i32 0, .int .i32 0, .int .i32 0, .int .u8 0, .string ⟨#[]⟩, .string ⟨#[]⟩, .string ⟨#[]⟩, .slice none 0 0, .string ⟨#[]⟩, .slice none 0 0, .int .i64 0, .string ⟨#[]⟩, .string ⟨#[]⟩, .string ⟨#[]⟩, .string ⟨#[]⟩, .int .u32 0, .string ⟨#[]⟩, .string ⟨#[]⟩, .string ⟨#[]⟩, .string ⟨#[]⟩, .slice none 0 0, .int .u32 0, .string ⟨#[]⟩] 54)).heap.size (w.alloc (.cells #[.int .u8 0, .int .u32 0, .string ⟨#[]⟩, .int .u16 0, .int .i32 0, .int .i32 0, .int .i32 0, .int .u8 0, .string ⟨#[]⟩, .string ⟨#[]⟩, .string ⟨#[]⟩, .slice none 0 0, .string ⟨#[]⟩, .slice none 0 0, .int .i64 0, .string ⟨#[]⟩, .string ⟨#[]⟩, .string ⟨#[]⟩, .string ⟨#[]⟩, .int .u32 0, .string ⟨#[]⟩, .string ⟨#[]⟩, .string ⟨#[]⟩, .string ⟨#[]⟩, .slice none 0 0, .int .u32 0, .string ⟨#[]⟩] 54)) w1 := by rw [hw1]; exact (Below.refl _ _).alloc (Nat.le_refl _) _
  have HB1 : Hid (Below w.heap.size w w1) := Lib.hid (seqB b1 b2)
  have HX4 : Hid (Bx (fun b => b = w.heap.size) w1 w.heap.size zeroRf) := Lib.hid (Bx.after (Bx.alloc w #[.int .u8 0, .int .u32 0, .string ⟨#[]⟩, .int .u16 0, .int .i32 0, .int .i32 0, .int .i32 0, .int .u8 0, .string ⟨#[]⟩, .string ⟨#[]⟩, .string ⟨#[]⟩, .slice none 0 0, .string ⟨#[]⟩, .slice none 0 0, .int .i64 0, .string ⟨#[]⟩, .string ⟨#[]⟩, .string ⟨#[]⟩, .string ⟨#[]⟩, .int .u32 0, .string ⟨#[]⟩, .string ⟨#[]⟩, .string ⟨#[]⟩, .string ⟨#[]⟩, .slice none 0 0, .int .u32 0, .string ⟨#[]⟩] 54 (S := fun b => b = w.heap.size) rfl rfl) b2)
  have HX6 : Hid (Bx (fun b => b = w.heap.size + 1) w1 (w.heap.size + 1) (rfV (Rf.of op) .z)) := Lib.hid (by rw [hw1]; exact Bx.alloc _ (rfV (Rf.of op) .z).toArray 54 (X := w.heap.size + 1) (S := fun b => b = w.heap.size + 1) (by simp) (by simp))
  clear b1 b2 hz0 hw1 HW1
  obtain ⟨X6, hX6⟩ : ∃ X, X = w.heap.size + 1 := ⟨_, rfl⟩
  rw [← hX6] at HX6 ⊢
  have HX6E := Lib.hid hX6; clear hX6
  refine (first_any (op := op)).mono ?_
  rintro e w2 ⟨rfl, rfl⟩
  obtain ⟨fo, hfo⟩ : ∃ fo, firstL op = fo := ⟨_, rfl⟩
  rw [hfo]
  have HFO := Lib.hid hfo; clear hfo
  cases fo with
  | none =>
    simp only [Option.getD_none, Option.isSome_none]
    go_wp2_with (first | (refine wpList_built (by rfl) 54 _ (by rfl) (rfV Rf.none .z).toArray (by kernel_rfl) ?_) | (refine wpList_storeB HX4.out (by rfl) 54 _ _ (by rfl) 0 (rfV Rf.none .z) (by rfl) (by rfl) (by kernel_rfl) (by show 0 + 27 ≤ 27; decide) (by rfl) ?_; intro w19 hb19 hg19; have HY19 := Lib.hid hb19; have HG19 := Lib.hid hg19; clear hb19 hg19))
    refine bodyPost_ret (results_box (vs := rfV Rf.none .z) rfl HY19.out (by rfl) (by rfl) _ Tryz.underlying54 rfl (by kernel_rfl)) rfl ?_
    obtain rfl : r = .error 22 := by rw [← HR.out]; unfold getRf; rw [HFO.out]
    exact ⟨.z, rfl, HRN.out _, Below.trans HB1.out (below_of_grown' HG19.out (Nat.le_refl _) HB1.out.size)⟩
  | some l0 =>
    simp only [Option.getD_some, Option.isSome_some]
    have hl0 := first_len HFO.out
    have HRUN0 : Hid (runRf (9 - 0) l0 (Rf.of op) (bs.drop 0) = r) := Lib.hid (by rw [← HR.out]; unfold getRf; rw [HFO.out]; rfl)
    have HRF0 : Hid (RfR (fun b => X6 < b) w1 (Rf.of op) .z) := Lib.hid ⟨Arr.nil, Arr.nil, Arr.nil⟩
    go_wp2_with fail
    go_loopw [7, 9, 10] (fun l at' i wr => ∃ (k q : Nat) (lv ls : B) (x : Rf) (t : Tfs), l = .string (str lv) ∧ at' = .int .i64 (q : Nat) ∧ i = .int .i64 (k : Nat) ∧ k ≤ 9 ∧ lv.length ≤ 5 + 5 * k ∧ q ≤ m ∧ Hid (lv.drop k = ls ∧ k ≤ lv.length) ∧ Hid (runRf (9 - k) ls x (bs.drop q) = r) ∧ Hid (RfR (fun b => X6 < b) wr x t) ∧ Hid (Bx (fun b => b = X6) wr X6 (rfV x t)) ∧ Hid (Bx (fun b => b = w.heap.size) wr w.heap.size zeroRf) ∧ Hid (Below w.heap.size w wr)) (fun _ _ i _ => 10 - (intOf i).toNat)
    case atStart => exact ⟨0, 0, l0, l0, Rf.of op, .z, rfl, rfl, rfl, by omega, by omega, by omega, Lib.hid ⟨rfl, Nat.zero_le _⟩, HRUN0, HRF0, HX6, HX4, HB1⟩
    case round =>
      obtain ⟨k, q, lv, ls, x, t, rfl, rfl, rfl, hk, hlv, hq, HLS, HRUN, HRF, HX6r, HX4r, HBr⟩ := hrel
      have hlx6 := HX6r.out.lt
      have hlx4 := HX4r.out.lt
      have hx46 : w.heap.size ≠ X6 := by have := HX6E.out; omega
      by_cases hlt : k < lv.length
      · obtain ⟨cl, ls', hcl⟩ : ∃ cl ls', ls = cl :: ls' := by
          rw [← HLS.out.1, List.drop_eq_getElem_cons hlt]
          exact ⟨_, _, rfl⟩
        have hnx := take_drop_next (HLS.out.1.trans hcl)
        have hk8 : k ≤ 8 := by
          rcases Nat.lt_or_ge 8 k with h | h
          · exfalso
            obtain rfl : k = 9 := by omega
            have := HRUN.out
            rw [hcl] at this
            exact HN0.out this.symm
          · exact h
        have HRUN2 : Hid (bindX (readL cl.toNat x (bs.drop q)) (fun r' b' => thenX (thenL cl.toNat r') fun m => runRf (8 - k) (m ++ ls') r' b') = r) := Lib.hid (by
          rw [← run_cons, show 8 - k + 1 = 9 - k by omega, ← hcl]
          exact HRUN.out)
        have hix := run_idx lv k cl hnx.1
        have HNX := Lib.hid hnx.2.1
        have hkl := hnx.2.2
        have hsl1 := run_to lv (k + 1) (by omega)
        have hsl2 := run_from lv (k + 1) (by omega)
        clear hnx hcl HRUN
        have HSr := Lib.hid (HS.out.after HBr.out)
        go_upto_region 10 with fail
        refine regf_start (fun b => wr.heap.size ≤ b ∨ b = X6) (by kernel_rfl) ?_
        (refine regf_take 1 (v := ?_) (by rfl) (by kernel_rfl) (by kernel_rfl) (by kernel_rfl) (by exact fun _ _ _ h => h) (by rfl) ?_ ?_; rotate_left; focus (intro w hSw; go_simp; try with_reducible rfl))
        simp only [Act.put, List.setIfInBounds_toArray, List.set_cons_zero, List.set_cons_succ]
        (refine regf_take 2 (v := ?_) (by rfl) (by kernel_rfl) (by kernel_rfl) (by kernel_rfl) (by exact fun _ _ _ h => h) (by rfl) ?_ ?_; rotate_left; focus (intro w hSw; go_simp; try with_reducible rfl))
        simp only [Act.put, List.setIfInBounds_toArray, List.set_cons_zero, List.set_cons_succ]
        (refine regf_take 3 (v := ?_) (by rfl) (by kernel_rfl) (by kernel_rfl) (by kernel_rfl) (by exact fun _ _ _ h => h) (by rfl) ?_ ?_; rotate_left; focus (intro w hSw; go_simp; try with_reducible rfl))
        simp only [Act.put, List.setIfInBounds_toArray, List.set_cons_zero, List.set_cons_succ]
        (refine regf_take 4 (v := ?_) (by rfl) (by kernel_rfl) (by kernel_rfl) (by kernel_rfl) (by exact fun _ _ _ h => h) (by rfl) ?_ ?_; rotate_left; focus (intro w hSw; go_simp; try with_reducible rfl))
        simp only [Act.put, List.setIfInBounds_toArray, List.set_cons_zero, List.set_cons_succ]
        (refine regf_take 5 (v := ?_) (by rfl) (by kernel_rfl) (by kernel_rfl) (by kernel_rfl) (by exact fun _ _ _ h => h) (by rfl) ?_ ?_; rotate_left; focus (intro w hSw; go_simp; try with_reducible rfl))
        simp only [Act.put, List.setIfInBounds_toArray, List.set_cons_zero, List.set_cons_succ]
        refine regf_call 0 (by kernel_rfl) (by rfl) (fun K hK => ?_)
        refine step_loadB (Bx.after HX6r.out (Below.refl _ _).drew) (by rfl) 54 _ (by rfl) (by rfl) _ Tryz.underlying54 rfl (by kernel_rfl) ?_
        refine hK.out _ _ ((Fr.refl _ _)) ?_
        clear hK K
        try simp only [Act.put, List.setIfInBounds_toArray, List.set_cons_zero, List.set_cons_succ]
        refine regf_call 6 (by kernel_rfl) (by rfl) (fun K hK => ?_)
        go_simp
        go_at_call 19; refine (rrd_any (L := cl.toNat) (a := q) (HSr.out.after (Below.refl _ _).drew) hm hq (goesRf.after HRF.out (Below.refl _ _).drew)).mono ?_; rintro e w5 ⟨x5, t5, q5, rfl, hrf5, hyx5, hat5, hb5⟩
        refine hK.out _ _ ((Fr.of_below hb5)) ?_
        clear hK K
        try simp only [Act.put, List.setIfInBounds_toArray, List.set_cons_zero, List.set_cons_succ]
        (refine regf_take 7 (v := ?_) (by rfl) (by kernel_rfl) (by kernel_rfl) (by kernel_rfl) (by exact fun _ _ _ h => h) (by rfl) ?_ ?_; rotate_left; focus (intro w hSw; go_simp; try with_reducible rfl))
        simp only [Act.put, List.setIfInBounds_toArray, List.set_cons_zero, List.set_cons_succ]
        (refine regf_take 8 (v := ?_) (by rfl) (by kernel_rfl) (by kernel_rfl) (by kernel_rfl) (by exact fun _ _ _ h => h) (by rfl) ?_ ?_; rotate_left; focus (intro w hSw; go_simp; try with_reducible rfl))
        simp only [Act.put, List.setIfInBounds_toArray, List.set_cons_zero, List.set_cons_succ]
        (refine regf_take 9 (v := ?_) (by rfl) (by kernel_rfl) (by kernel_rfl) (by kernel_rfl) (by exact fun _ _ _ h => h) (by rfl) ?_ ?_; rotate_left; focus (intro w hSw; go_simp; try with_reducible rfl))
        simp only [Act.put, List.setIfInBounds_toArray, List.set_cons_zero, List.set_cons_succ]
        (refine regf_take 10 (v := ?_) (by rfl) (by kernel_rfl) (by kernel_rfl) (by kernel_rfl) (by exact fun _ _ _ h => h) (by rfl) ?_ ?_; rotate_left; focus (intro w hSw; go_simp; try with_reducible rfl))
        simp only [Act.put, List.setIfInBounds_toArray, List.set_cons_zero, List.set_cons_succ]
        refine regf_call 11 (by kernel_rfl) (by rfl) (fun K hK => ?_)
        refine step_storeB (goesBx.after (Bx.after HX6r.out (Below.refl _ _).drew) hb5) (by rfl) 54 _ _ (by rfl) 0 (rfV x5 t5) (by rfl) (by rfl) (by kernel_rfl) (by show 0 + 27 ≤ 27; decide) (by rfl) ?_; intro w9 hx9 hg9
        refine hK.out _ _ ((Fr.of_one hg9 (.inr rfl))) ?_
        clear hK K
        try simp only [Act.put, List.setIfInBounds_toArray, List.set_cons_zero, List.set_cons_succ]
        (refine regf_take 12 (v := ?_) (by rfl) (by kernel_rfl) (by kernel_rfl) (by kernel_rfl) (by exact fun _ _ _ h => h) (by rfl) ?_ ?_; rotate_left; focus (intro w hSw; go_simp; try with_reducible rfl))
        simp only [Act.put, List.setIfInBounds_toArray, List.set_cons_zero, List.set_cons_succ]
        (refine regf_take 13 (v := ?_) (by rfl) (by kernel_rfl) (by kernel_rfl) (by kernel_rfl) (by exact fun _ _ _ h => h) (by rfl) ?_ ?_; rotate_left; focus (intro w hSw; go_simp; try with_reducible rfl))
        simp only [Act.put, List.setIfInBounds_toArray, List.set_cons_zero, List.set_cons_succ]
        refine wpAnyH_done (by kernel_rfl) ?_ _
        have hb5' : Below wr.heap.size wr w5 := Below.trans (show Below wr.heap.size wr wr.drew from (Below.refl _ _).drew) hb5
        have HX9 : Hid (Bx (fun b => b = X6) w9 X6 (rfV x5 t5)) := Lib.hid hx9
        have HX49 : Hid (Bx (fun b => b = w.heap.size) w9 w.heap.size zeroRf) := Lib.hid (goesBx.keep (goesBx.after HX4r.out hb5') hg9.size fun b hb hl => hg9.block b hl (fun e => by injection e with e; omega))
        have HB9 : Hid (Below w.heap.size w w9) := Lib.hid (Below.trans (Below.trans HBr.out (hb5'.mono (by omega))) (below_of_grown' hg9 (by have := HX6E.out; omega) (by have := hb5'.size; omega)))
        have hdz : wr.drew.heap.size = wr.heap.size := rfl
        have HRF9 : Hid (RfR (fun b => X6 < b) w9 x5 t5) := Lib.hid (goesRf.keep (goesRf.mono (S' := fun b => X6 < b) hrf5 fun b hb _ => by rcases hb with hb | hb; exact hb; omega) hg9.size fun b hb hl => hg9.block b hl (fun e => by injection e with e; omega))
        have HYX := Lib.hid hyx5; have HAT := Lib.hid hat5
        have hlx9 := HX9.out.lt
        have hl49 := HX49.out.lt
        clear hx9 hg9 hb5 hb5' hrf5 hyx5 hat5 hdz
        obtain ⟨res, hres⟩ : ∃ res, readL cl.toNat x (bs.drop q) = res := ⟨_, rfl⟩
        rw [hres] at HRUN2 HYX HAT ⊢
        clear hres
        cases res with
        | error e =>
          have hr0 : r = .error e := HRUN2.out.symm
          have hne : (e != 0) = true := bne_iff_ne.2 (fun h => HN0.out (by rw [hr0, h]))
          have HR0 := Lib.hid hr0
          clear hr0
          simp only [rerr_error]
          go_wp2_with (first | (refine wpList_built (by rfl) 54 _ (by rfl) (rfV Rf.none .z).toArray (by kernel_rfl) ?_) | (refine wpList_storeB HX49.out (by rfl) 54 _ _ (by rfl) 0 (rfV Rf.none .z) (by rfl) (by rfl) (by kernel_rfl) (by show 0 + 27 ≤ 27; decide) (by rfl) ?_; intro w19 hb19 hg19; have HY19 := Lib.hid hb19; have HG19 := Lib.hid hg19; clear hb19 hg19))
          refine bodyPost_ret (results_box (vs := rfV Rf.none .z) rfl HY19.out (by rfl) (by rfl) _ Tryz.underlying54 rfl (by kernel_rfl)) rfl ?_
          obtain rfl : r = .error e := HR0.out
          exact ⟨.z, rfl, HRN.out _, Below.trans HB9.out (below_of_grown' HG19.out (Nat.le_refl _) HB9.out.size)⟩
        | ok p =>
          obtain ⟨y, b'⟩ := p
          obtain rfl : y = x5 := HYX.out y b' rfl
          simp only [rerr_ok]
          have hq5 : q5 ≤ m := by have := (HAT.out.1 _ rfl).1; have := HLN.out; omega
          have HDR : Hid (bs.drop q5 = b') := Lib.hid (HAT.out.1 _ rfl).2
          have HRUN3 : Hid (thenX (thenL cl.toNat y) (fun m => runRf (8 - k) (m ++ ls') y b') = r) := Lib.hid HRUN2.out
          clear HAT HYX HRUN2
          go_upto_region 13 with fail
          refine regf_start (fun b => w9.heap.size ≤ b) (by kernel_rfl) ?_
          (refine regf_take 1 (v := ?_) (by rfl) (by kernel_rfl) (by kernel_rfl) (by kernel_rfl) (by exact fun _ _ _ h => h) (by rfl) ?_ ?_; rotate_left; focus (intro w hSw; go_simp; try with_reducible rfl))
          simp only [Act.put, List.setIfInBounds_toArray, List.set_cons_zero, List.set_cons_succ]
          (refine regf_take 2 (v := ?_) (by rfl) (by kernel_rfl) (by kernel_rfl) (by kernel_rfl) (by exact fun _ _ _ h => h) (by rfl) ?_ ?_; rotate_left; focus (intro w hSw; go_simp; try with_reducible rfl))
          simp only [Act.put, List.setIfInBounds_toArray, List.set_cons_zero, List.set_cons_succ]
          (refine regf_take 3 (v := ?_) (by rfl) (by kernel_rfl) (by kernel_rfl) (by kernel_rfl) (by exact fun _ _ _ h => h) (by rfl) ?_ ?_; rotate_left; focus (intro w hSw; go_simp; try with_reducible rfl))
          simp only [Act.put, List.setIfInBounds_toArray, List.set_cons_zero, List.set_cons_succ]
          refine regf_call 0 (by kernel_rfl) (by rfl) (fun K hK => ?_)
          refine step_loadB (Bx.after HX9.out (Below.refl _ _).drew) (by rfl) 54 _ (by rfl) (by rfl) _ Tryz.underlying54 rfl (by kernel_rfl) ?_
          refine hK.out _ _ ((Fr.refl _ _)) ?_
          clear hK K
          try simp only [Act.put, List.setIfInBounds_toArray, List.set_cons_zero, List.set_cons_succ]
          refine regf_call 4 (by kernel_rfl) (by rfl) (fun K hK => ?_)
          go_simp
          go_at_call 15; refine (then_any (L := cl.toNat) (goesRf.after HRF9.out (Below.refl _ _).drew)).mono ?_; rintro e w11 ⟨rfl, hb11⟩
          refine hK.out _ _ ((Fr.of_below hb11)) ?_
          clear hK K
          try simp only [Act.put, List.setIfInBounds_toArray, List.set_cons_zero, List.set_cons_succ]
          (refine regf_take 5 (v := ?_) (by rfl) (by kernel_rfl) (by kernel_rfl) (by kernel_rfl) (by exact fun _ _ _ h => h) (by rfl) ?_ ?_; rotate_left; focus (intro w hSw; go_simp; try with_reducible rfl))
          simp only [Act.put, List.setIfInBounds_toArray, List.set_cons_zero, List.set_cons_succ]
          (refine regf_take 6 (v := ?_) (by rfl) (by kernel_rfl) (by kernel_rfl) (by kernel_rfl) (by exact fun _ _ _ h => h) (by rfl) ?_ ?_; rotate_left; focus (intro w hSw; go_simp; try with_reducible rfl))
          simp only [Act.put, List.setIfInBounds_toArray, List.set_cons_zero, List.set_cons_succ]
          (refine regf_take 7 (v := ?_) (by rfl) (by kernel_rfl) (by kernel_rfl) (by kernel_rfl) (by exact fun _ _ _ h => h) (by rfl) ?_ ?_; rotate_left; focus (intro w hSw; go_simp; try with_reducible rfl))
          simp only [Act.put, List.setIfInBounds_toArray, List.set_cons_zero, List.set_cons_succ]
          (refine regf_take 8 (v := ?_) (by rfl) (by kernel_rfl) (by kernel_rfl) (by kernel_rfl) (by exact fun _ _ _ h => h) (by rfl) ?_ ?_; rotate_left; focus (intro w hSw; go_simp; try with_reducible rfl))
          simp only [Act.put, List.setIfInBounds_toArray, List.set_cons_zero, List.set_cons_succ]
          (refine regf_take 9 (v := ?_) (by rfl) (by kernel_rfl) (by kernel_rfl) (by kernel_rfl) (by exact fun _ _ _ h => h) (by rfl) ?_ ?_; rotate_left; focus (intro w hSw; go_simp; try with_reducible rfl))
          simp only [Act.put, List.setIfInBounds_toArray, List.set_cons_zero, List.set_cons_succ]
          refine wpAnyH_done (by kernel_rfl) ?_ _
          have hb11' : Below w9.heap.size w9 w11 := Below.trans (show Below w9.heap.size w9 w9.drew from (Below.refl _ _).drew) hb11
          have HX11 := Lib.hid (goesBx.after HX9.out hb11')
          have HX411 := Lib.hid (goesBx.after HX49.out hb11')
          have HRF11 : Hid (RfR (fun b => X6 < b) w11 y t5) := Lib.hid (goesRf.after HRF9.out hb11')
          have HB11 := Lib.hid (HB9.out.trans (hb11'.mono HB9.out.size))
          clear hb11 hb11'
          obtain ⟨th, hth⟩ : ∃ th, thenL cl.toNat y = th := ⟨_, rfl⟩
          rw [hth] at HRUN3 ⊢
          have HTH := Lib.hid hth; clear hth
          cases th with
          | none =>
            simp only [Option.getD_none, Option.isSome_none]
            go_wp2_with (first | (refine wpList_built (by rfl) 54 _ (by rfl) (rfV Rf.none .z).toArray (by kernel_rfl) ?_) | (refine wpList_storeB HX411.out (by rfl) 54 _ _ (by rfl) 0 (rfV Rf.none .z) (by rfl) (by rfl) (by kernel_rfl) (by show 0 + 27 ≤ 27; decide) (by rfl) ?_; intro w19 hb19 hg19; have HY19 := Lib.hid hb19; have HG19 := Lib.hid hg19; clear hb19 hg19))
            refine bodyPost_ret (results_box (vs := rfV Rf.none .z) rfl HY19.out (by rfl) (by rfl) _ Tryz.underlying54 rfl (by kernel_rfl)) rfl ?_
            obtain rfl : r = .error 11 := HRUN3.out.symm
            exact ⟨.z, rfl, HRN.out _, Below.trans HB11.out (below_of_grown' HG19.out (Nat.le_refl _) HB11.out.size)⟩
          | some mo =>
            simp only [Option.getD_some, Option.isSome_some]
            have hmo := then_len HTH.out
            have HRUN4 : Hid (runRf (9 - (k + 1)) (mo ++ ls') y (bs.drop q5) = r) := Lib.hid (by rw [HDR.out, show 9 - (k + 1) = 8 - k by omega]; exact HRUN3.out)
            have hlen1 : (lv.take (k + 1)).length = k + 1 := by rw [List.length_take]; omega
            have hlen2 : (lv.drop (k + 1)).length = lv.length - (k + 1) := List.length_drop
            have had1 := run_addS (lv.take (k + 1)) mo (by omega)
            have had2 := run_addS (lv.take (k + 1) ++ mo) (lv.drop (k + 1)) (by rw [List.length_append]; omega)
            have HLV : Hid ((lv.take (k + 1) ++ mo ++ lv.drop (k + 1)).drop (k + 1) = mo ++ ls' ∧ k + 1 ≤ (lv.take (k + 1) ++ mo ++ lv.drop (k + 1)).length) := Lib.hid ⟨next_drop hkl HNX.out, by rw [List.length_append, List.length_append]; omega⟩
            have HLL : Hid ((lv.take (k + 1) ++ mo ++ lv.drop (k + 1)).length ≤ 5 + 5 * (k + 1)) := Lib.hid (by rw [List.length_append, List.length_append]; omega)
            clear hlen1 hlen2
            go_wp2_with fail
            go_quiet (fail)
            clear had1 had2 hsl1 hsl2 hix
            obtain ⟨w12, hw12⟩ : ∃ w12, w12 = w11.drewN nq := ⟨_, rfl⟩
            have hdr : Below w11.heap.size w11 w12 := by rw [hw12]; exact below_drewN (Below.refl _ _) _
            rw [← hw12]
            clear hw12
            go_wp2_with fail
            refine ⟨⟨k + 1, q5, lv.take (k + 1) ++ mo ++ lv.drop (k + 1), mo ++ ls', y, t5, (by rw [← str_next lv mo (k + 1)]), by rfl, by go_num, by omega, HLL.out, hq5, HLV, HRUN4, Lib.hid (goesRf.after HRF11.out hdr), Lib.hid (goesBx.after HX11.out hdr), Lib.hid (goesBx.after HX411.out hdr), Lib.hid (HB11.out.trans (hdr.mono HB11.out.size))⟩, by simp [intOf]; omega⟩
      · obtain rfl : ls = [] := by rw [← HLS.out.1]; exact List.drop_of_length_le (by omega)
        have hkk : k = lv.length := by have := HLS.out.2; omega
        have hrn := HRUN.out
        rw [run_nil, List.length_drop] at hrn
        have HRUN5 := Lib.hid hrn; clear hrn
        have hlvk : (lv.length : Int) = (k : Int) := by omega
        clear hkk
        by_cases hqm : q = m
        · have hr0 : r = .ok x := by rw [← HRUN5.out, if_pos (by have := HLN.out; omega)]
          have HR0 := Lib.hid hr0
          have q1 : ((q : Int) != (m : Int)) = false := by rw [hqm]; simp
          clear hr0 hqm
          go_wp2_with (first | (refine wpList_loadB HX6r.out (by rfl) 54 _ (by rfl) (by rfl) _ Tryz.underlying54 rfl (by kernel_rfl) ?_) | (refine wpList_storeB HX4r.out (by rfl) 54 _ _ (by rfl) 0 (rfV x t) (by rfl) (by rfl) (by kernel_rfl) (by show 0 + 27 ≤ 27; decide) (by rfl) ?_; intro w19 hb19 hg19; have HY19 := Lib.hid hb19; have HG19 := Lib.hid hg19; clear hb19 hg19))
          refine bodyPost_ret (results_box (vs := rfV x t) rfl HY19.out (by rfl) (by rfl) _ Tryz.underlying54 rfl (by kernel_rfl)) rfl ?_
          rw [HR0.out]
          refine ⟨t, rfl, goesRf.mono (goesRf.keep HRF.out HG19.out.size fun b hb hl => HG19.out.block b hl (fun e => by have := HX6E.out; injection e with e; omega)) (fun b hb _ => by have := HX6E.out; omega), Below.trans HBr.out (below_of_grown' HG19.out (Nat.le_refl _) HBr.out.size)⟩
        · have hr0 : r = .error 23 := by rw [← HRUN5.out, if_neg (by have := HLN.out; omega)]
          have HR0 := Lib.hid hr0
          have q1 : ((q : Int) != (m : Int)) = true := bne_iff_ne.2 (by omega)
          clear hr0 hqm
          go_wp2_with (first | (refine wpList_built (by rfl) 54 _ (by rfl) (rfV Rf.none .z).toArray (by kernel_rfl) ?_) | (refine wpList_storeB HX4r.out (by rfl) 54 _ _ (by rfl) 0 (rfV Rf.none .z) (by rfl) (by rfl) (by kernel_rfl) (by show 0 + 27 ≤ 27; decide) (by rfl) ?_; intro w19 hb19 hg19; have HY19 := Lib.hid hb19; have HG19 := Lib.hid hg19; clear hb19 hg19))
          refine bodyPost_ret (results_box (vs := rfV Rf.none .z) rfl HY19.out (by rfl) (by rfl) _ Tryz.underlying54 rfl (by kernel_rfl)) rfl ?_
          obtain rfl : r = .error 23 := HR0.out
          exact ⟨.z, rfl, HRN.out _, Below.trans HBr.out (below_of_grown' HG19.out (Nat.le_refl _) HBr.out.size)⟩
end Go.Proofs.Sb
