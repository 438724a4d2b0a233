/- The walk over signalboxlaw08.awake: true. No conditions. -/
import Derived.Test.YtdgmkmadlnmhbaaRqf
set_option linter.unusedVariables false
set_option linter.unusedSimpArgs false
namespace Go.Proofs.Sb
open Go.RowKit _root_.Sb

def aw1 : Rq := ⟨9, [], [97], [], Par.none, [], Val.none, 0, []⟩
def aw2p : Par := ⟨1, [], [], false, false, 0, false, Val.none, false, 0, true, -1⟩
def aw2 : Rq := ⟨7, [], [97], [], aw2p, [], Val.none, 0, []⟩
theorem parN_none : ParN Par.none := ⟨by decide, by decide, ⟨by decide, by decide⟩, ⟨by decide, by decide⟩⟩
theorem parN_aw2 : ParN aw2p := ⟨by decide, by decide, ⟨by decide, by decide⟩, ⟨by decide, by decide⟩⟩
theorem rqR_aw {w : World} {q : Rq} (h1 : q.options = []) (h2 : q.text.length ≤ 5) (h3 : q.ident = []) (h4 : q.run.values = []) (h5 : q.run.names = []) (h6 : q.run.state.bytes = []) (h7 : q.events = []) (h8 : q.token.bytes = []) (h9 : q.all = []) : RqR (fun _ => False) w q .z .z .z .z .z .z .z .z := by
  refine ⟨?_, by omega, ?_, ⟨?_, ?_, ?_⟩, ?_, ?_, ?_⟩
  · rw [h1]; exact Arr.nil
  · rw [h3]; exact Sl.nil
  · rw [h4]; exact Arr.nil
  · rw [h5]; exact Arr.nil
  · rw [h6]; exact Sl.nil
  · rw [h7]; exact Arr.nil
  · rw [h8]; exact Sl.nil
  · rw [h9]; exact Arr.nil
set_option maxHeartbeats 2000000 in
set_option maxRecDepth 100000 in
theorem awake8 (w : World) : Calls Try.prog 9 #[] w fun e w' => e = .returned (.bool true) ∧ Below w.heap.size w w' := by
  go_enter Try.func9, Try.ntmps9
  go_wp2_with (first | (refine wpList_built (by rfl) 33 _ (by rfl) (rqV aw1 .z .z .z .z .z .z .z .z).toArray (by kernel_rfl) ?_))
  refine (wPut_any (q := aw1) (rqR_aw rfl (by decide) rfl rfl rfl rfl rfl rfl rfl) (by decide) (by decide) parN_none (by decide +kernel) (.ok [0, 0, 0, 1, 97]) (by kernel_rfl)).mono ?_
  rintro e w1 ⟨A1, n1, c1, rfl, hs1, hb1⟩
  have HS1 := Lib.hid hs1; clear hs1
  have HB1 := Lib.hid hb1; clear hb1
  go_wp2_with (first | (refine wpList_built (by rfl) 30 _ (by rfl) (parV aw2p none 0 0 none 0 0 none 0 0).toArray (by kernel_rfl) ?_) | (refine wpList_built (by rfl) 33 _ (by rfl) (rqV aw2 .z .z .z .z .z .z .z .z).toArray (by kernel_rfl) ?_))
  refine (wPut_any (q := aw2) (rqR_aw rfl (by decide) rfl rfl rfl rfl rfl rfl rfl) (by decide) (by decide) parN_aw2 (by decide +kernel) (.ok [0, 0, 0, 1, 97, 0, 1, 32, 255, 255, 255, 255, 255, 255, 255, 255]) (by kernel_rfl)).mono ?_
  rintro e w2 ⟨A2, n2, c2, rfl, hs2, hb2⟩
  have HS2 := Lib.hid hs2
  have HB2 := Lib.hid (HB1.out.trans (hb2.mono HB1.out.size))
  have HS12 := Lib.hid (HS1.out.after hb2)
  obtain rfl : n2 = 16 := hs2.len
  clear hs2 hb2
  go_wp2_with fail
  refine (rget8_any (op := 7) HS2.out (by decide) (by decide) (.ok aw2) (by kernel_rfl)).mono ?_
  rintro e w3 ⟨o, i, r1, r2, r3, ev, t, al, rfl, hq3, hb3⟩
  have HB3 := Lib.hid (HB2.out.trans (hb3.mono HB2.out.size))
  have HS13 := Lib.hid (HS12.out.after hb3)
  clear hq3 hb3
  go_wp2_with (first | (refine wpList_store_newB (by rfl) 33 _ _ (by rfl) _ _ _ _ (by rfl) (by rfl) (by simp) (by rfl) (by kernel_rfl) (by rfl) (by rfl) ?_; intro w4 hb4 hz4 hx4; have hl4 : w3.heap.size < w4.heap.size := (by omega); clear hz4; have HB4 := Lib.hid (HB3.out.trans (hb4.mono HB3.out.size)); have HS14 := Lib.hid (HS13.out.after hb4); have HX4 := Lib.hid hx4; clear hb4 hx4))
  refine (rget8_any (op := 5) (sl_lit _ _ 1 [1] (by rfl) (by rfl) (by decide) (by first | rfl | simp)) (by decide) (by decide) (.error 23) (by kernel_rfl)).mono ?_
  rintro e w5 ⟨o5, i5, s1, s2, s3, ev5, t5, al5, rfl, hq5, hb5⟩
  have hb45 : Below w4.heap.size w4 w5 := Below.trans (Below.alloc (Below.refl _ _) (Nat.le_refl _) _) (hb5.mono (by simp))
  have HB5 := Lib.hid (HB4.out.trans (hb45.mono HB4.out.size))
  have HS15 := Lib.hid (HS14.out.after hb45)
  have HX5 := Lib.hid (HX4.out.after hb45)
  have hl5 : w3.heap.size < w5.heap.size := by have := hb45.size; omega
  clear hq5 hb5 hb45
  go_wp2_with (first | (refine wpList_store_newB (by rfl) 33 _ _ (by rfl) _ _ _ _ (by rfl) (by rfl) (by simp) (by rfl) (by kernel_rfl) (by rfl) (by rfl) ?_; intro w6 hb6 hz6 hx6; have hl6 : w5.heap.size < w6.heap.size := (by omega); clear hz6 hx6; have HB6 := Lib.hid (HB5.out.trans (hb6.mono HB5.out.size)); have HS16 := Lib.hid (HS15.out.after hb6); have HX6 := Lib.hid (HX5.out.after hb6); clear hb6) | (refine wpList_built (by rfl) 33 _ (by rfl) (rqV Rq.none .z .z .z .z .z .z .z .z).toArray (by kernel_rfl) ?_))
  refine (wPut_any (q := Rq.none) (rqR_aw rfl (by decide) rfl rfl rfl rfl rfl rfl rfl) (by decide) (by decide) parN_none (by decide +kernel) (.error 22) (by kernel_rfl)).mono ?_
  rintro e w7 ⟨A7, n7, c7, rfl, hs7, hb7⟩
  have HB7 := Lib.hid (HB6.out.trans (hb7.mono HB6.out.size))
  have hcv := conv_sl (HS16.out.after hb7)
  have HX7 := Lib.hid (HX6.out.after hb7)
  have c16 : w7.cell? ⟨w3.heap.size, 16, none⟩ = some (.int .i64 (-1)) := HX7.out.c 16 _ rfl
  have hl7 : w3.heap.size < w7.heap.size := HX7.out.lt
  clear hs7 hb7
  go_wp2_with fail
  go_ret
  exact ⟨rfl, HB7.out⟩
end Go.Proofs.Sb
