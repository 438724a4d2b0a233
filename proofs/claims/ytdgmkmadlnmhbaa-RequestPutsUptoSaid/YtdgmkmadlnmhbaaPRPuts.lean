/- The walk over signalboxlaw08.RequestPuts: true at every input, and nothing that was there has turned. Conditions: lengths up to 2^20. -/
import Derived.Test.YtdgmkmadlnmhbaaAwake8
import Derived.Test.YtdgmkmadlnmhbaaSlight8
import Derived.Test.YtdgmkmadlnmhbaaRrg
import Derived.Test.YtdgmkmadlnmhbaaRows
import Derived.Test.YtdgmkmadlnmhbaaArgsr
set_option linter.unusedVariables false
set_option linter.unusedSimpArgs false
namespace Go.Proofs.Sb
open Go.RowKit _root_.Sb

theorem rqL_of {q : Rq} (h : RqB 1048576 q) : RqL q := ⟨h.nopts, h.nevs, h.nall, h.run.nvals, h.run.nnames, fun x hx => (h.all x hx).2.2.2⟩
set_option maxHeartbeats 8000000 in
set_option maxRecDepth 100000 in
theorem requestPuts_any {S : Nat → Prop} {w : World} {q : Rq} {o i r1 r2 r3 ev t al : Slc} (hq : RqR S w q o i r1 r2 r3 ev t al) (hpn : ParN q.run) (hb : RqB 1048576 q) (hop : q.opcode < 256) (hkd : q.kind < 256) :
    Calls Try.prog 3 #[.agg (rqV q o i r1 r2 r3 ev t al).toArray] w fun e w' => e = .returned (.bool true) ∧ Below w.heap.size w w' := by
  have HP := Lib.hid (goesRq.mono (S' := fun b => S b ∧ b < w.heap.size) hq fun b h1 h2 => ⟨h1, h2⟩); clear hq
  have HPN := Lib.hid hpn; clear hpn
  have HRB := Lib.hid hb; clear hb
  have HOP := Lib.hid hop; clear hop
  have HKD := Lib.hid hkd; clear hkd
  obtain ⟨vs, hvs⟩ : ∃ vs, vs = rqV q o i r1 r2 r3 ev t al := ⟨_, rfl⟩
  have hvl : vs.length = 22 := by rw [hvs]; rfl
  rw [← hvs]
  have HVS := Lib.hid hvs; clear hvs
  go_enter Try.func3, Try.ntmps3
  go_upto_block 0 with fail
  obtain ⟨w1, hw1⟩ : ∃ w1, w1 = w.alloc (.cells vs.toArray 33) := ⟨_, rfl⟩
  rw [← hw1]
  have hB1 : Below w.heap.size w w1 := by rw [hw1]; exact (Below.refl _ _).alloc (Nat.le_refl _) _
  have hbx : Bx (fun b => b = w.heap.size) w1 w.heap.size vs := by
    rw [hw1]; exact Bx.alloc w vs.toArray 33 (S := fun b => b = w.heap.size) rfl rfl
  have HBX1 := Lib.hid hbx; clear hbx hw1
  have HB1 := Lib.hid hB1; clear hB1
  go_wp2_with fail
  refine (awake8 _).mono ?_
  rintro e w2 ⟨rfl, hb2⟩
  have HB2 := Lib.hid (HB1.out.trans (hb2.mono HB1.out.size))
  have HBX2 := Lib.hid (goesBx.after HBX1.out hb2)
  clear hb2 HBX1
  go_wp2_with (first | (refine wpList_loadB HBX2.out (by rfl) 33 _ (by rfl) (by rfl) _ Try.underlying33 rfl (by rw [hvl]; kernel_rfl) ?_))
  have hsl := slight8_any (goesRq.after HP.out HB2.out) HRB.out
  rw [← HVS.out] at hsl
  refine hsl.mono ?_
  clear hsl
  rintro e w3 ⟨β, rfl, hβ, hb3⟩
  have HB3 := Lib.hid (HB2.out.trans (hb3.mono HB2.out.size))
  have HBX3 := Lib.hid (goesBx.after HBX2.out hb3)
  clear hb3 HBX2
  have HBE := Lib.hid hβ; clear hβ
  cases β with
  | false =>
    go_wp2_with fail
    go_ret
    exact ⟨rfl, HB3.out⟩
  | true =>
    have HL := Lib.hid (light_of HRB.out (HBE.out rfl)); clear HBE
    go_wp2_with (first | (refine wpList_loadB HBX3.out (by rfl) 33 _ (by rfl) (by rfl) _ Try.underlying33 rfl (by rw [hvl]; kernel_rfl) ?_))
    obtain ⟨r, hr⟩ : ∃ r, putRq q = r := ⟨_, rfl⟩
    have HR := Lib.hid hr; clear hr
    have hput := wPut_any (goesRq.after HP.out HB3.out) HOP.out HKD.out HPN.out (by have := HL.out; omega) r HR.out
    rw [← HVS.out] at hput
    refine hput.mono ?_
    clear hput
    rintro e w4 ⟨A4, n4, c4, rfl, hs4, hb4⟩
    have HS4 := Lib.hid hs4; clear hs4
    have HB4 := Lib.hid (HB3.out.trans (hb4.mono HB3.out.size))
    have HBX4 := Lib.hid (goesBx.after HBX3.out hb4)
    clear hb4 HBX3
    go_wp2_with (first | (refine wpList_loadB HBX4.out (by rfl) 33 _ (by rfl) (by rfl) _ Try.underlying33 rfl (by rw [hvl]; kernel_rfl) ?_))
    have hof := requestOf_any (goesRq.after HP.out HB4.out) (rqL_of HRB.out)
    rw [← HVS.out] at hof
    refine hof.mono ?_
    clear hof
    rintro e w5 ⟨o5, x1, x2, ev5, al5, rfl, hq5, hb5⟩
    have HQ5 := Lib.hid hq5
    have HB5 := Lib.hid (HB4.out.trans (hb5.mono HB4.out.size))
    have HS5 := Lib.hid (HS4.out.after hb5)
    clear hq5 hb5 HBX4 HS4
    obtain ⟨us, hus⟩ : ∃ us, us = rfV q o5 x1 x2 ev5 al5 := ⟨_, rfl⟩
    rw [← hus]
    have HUS := Lib.hid hus; clear hus
    go_wp2_with fail
    have hput := rPut8_any HQ5.out HOP.out HKD.out HPN.out (by have := HL.out; omega) r HR.out
    rw [← HUS.out] at hput
    refine hput.mono ?_
    clear hput
    rintro e w6 ⟨A6, n6, c6, rfl, hs6, hb6⟩
    have HB6 := Lib.hid (HB5.out.trans (hb6.mono HB5.out.size))
    have c1' := conv_sl (HS5.out.after hb6)
    have c2' := conv_sl hs6
    clear hb6 hs6
    generalize werr r = er at *
    go_wp2_with fail
    go_ret
    exact ⟨by simp, HB6.out⟩
end Go.Proofs.Sb

/- signalboxlaw08.RequestPuts returns true at every input, and each argument reads behind the call as it read before. No conditions. -/
namespace Go.Proofs.Ytdgmkmadlnmhbaa
open Go.ChangeShapes Go.WideShapes Go.ChangeAt Go.RowKit Go.Proofs.Sb

set_option maxRecDepth 100000 in
theorem requestPuts_lifted (os : Os) (started : os.Started) (H : Type) (enc : TypeId × Value → H) (F : Stop.Interp) :
    ReturnsInHanded {} Try.checked os 3 .any ((Rows.OpenSpec.upto Rows.requestPutsSpec).pre6 enc Try.prog Try.f3 Rows.requestPutsUptoRow.domain false) (((Rows.OpenSpec.upto Rows.requestPutsSpec).at F).post enc Try.prog Try.f3 false true false false) := by
  refine returnsInHanded_of_cond (C := Try.checked) (s := Rows.OpenSpec.upto Rows.requestPutsSpec) (k := Rows.uptoSmall) rfl Try.own started (by kernel_rfl) Try.func3
    (OpenSpec.witness (enc := enc) (C := Try.checked) (s := Rows.OpenSpec.upto Rows.requestPutsSpec) (k := Rows.uptoSmall) rfl false ⟨#[], #[.agg #[.int .u8 0, .slice none 0 0, .string ⟨#[]⟩, .slice none 0 0, .int .u16 0, .slice none 0 0, .slice none 0 0, .bool false, .bool false, .int .i32 0, .bool false, .int .i64 0, .slice none 0 0, .bool false, .int .u16 0, .bool false, .int .i64 0, .slice none 0 0, .int .i64 0, .slice none 0 0, .int .u8 0, .slice none 0 0]], []⟩ 8 (by kernel_rfl) (by kernel_rfl) (by kernel_rfl)
      (x := ([.agg [.lit (.int .u8 0), .nil, .lit (.string []), .nil, .agg [.lit (.int .u16 0), .nil, .nil, .lit (.bool false), .lit (.bool false), .lit (.int .i32 0), .lit (.bool false), .agg [.lit (.int .i64 0), .nil], .lit (.bool false), .lit (.int .u16 0), .lit (.bool false), .lit (.int .i64 0)], .nil, .agg [.lit (.int .i64 0), .nil], .lit (.int .u8 0), .nil]], [], [])) (by kernel_rfl) rfl (by kernel_rfl)) ?_
  intro W base args ds gs before hval0 hW _ hk0 _
  have hval : ∀ (j : Nat) t v, Try.f3.params[j]? = some t → args[j]? = some v → Value.okWide Try.prog W .any base t v := hval0
  have hW' := hW
  obtain ⟨p, q, hA0, hV, rfl, hfz, hnd⟩ := hW
  have hA : DataW.TrodAll enc Try.prog W 0 (fun _ => true) true Try.f3.params.toList args.toList ds p := hA0
  rw [Try.params3] at hA hval
  obtain ⟨v0, vs0, d0, ds0, p0, q0, hargs, rfl, rfl, h0, r0⟩ := trodAll_cons hA
  obtain ⟨rfl, rfl, rfl⟩ := trodAll_nil r0
  obtain rfl : args = #[v0] := by cases args; simp_all
  obtain ⟨rfl, rfl⟩ := trodVars_none hV
  have hk := bulk_small hk0
  have hB0 := hk d0 (by simp)
  obtain ⟨q0, o0, i0, r0, s0, u0, e0, t0, a0, rfl, hs0⟩ := rq_ofB (hval 0 33 v0 rfl rfl) h0 hB0
  clear hA0 hval0
  refine (requestPuts_any hs0.1 hs0.2.1 hs0.2.2.1 hs0.2.2.2.1 hs0.2.2.2.2).mono fun e W' ⟨he, bel⟩ => ?_
  subst he
  exact ⟨_, rfl, _, _, _, [], _, [], hW', trodAll_mk1 (shut_bool Try.underlying4 _), (trodAll_cons_mk (Below.trod Try.laidOut (by kernel_rfl) (of_decide_eq_true (by kernel_rfl)) h0 bel (lt_of h0)) trodAll_mk0), rfl, bel.frame _, fun h => by cases h⟩

theorem requestPuts_holds : Rows.RequestPutsUptoSaid :=
  OpenClaim.holds_of_cond 3 Try.f3 rfl rfl rfl rfl rfl rfl rfl ⟨rfl, rfl, rfl, rfl, rfl⟩ rfl rfl rfl rfl rfl (by kernel_rfl) Try.func3 (by kernel_rfl)
    (of_decide_eq_true (by kernel_rfl)) (by unfold Func.isWrapper; first | (rw [if_pos (by decide +kernel)]; kernel_rfl) | (rw [if_neg (by decide +kernel)]; exact ⟨rfl, rfl⟩))
    (fun os started H enc _ F => requestPuts_lifted os started H enc F)
end Go.Proofs.Ytdgmkmadlnmhbaa
