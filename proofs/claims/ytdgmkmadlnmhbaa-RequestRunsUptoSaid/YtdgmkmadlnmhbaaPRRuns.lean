/- signalboxlaw08.RequestRuns returns true at every input, and each argument reads behind the call as it read before. No conditions. -/
import Derived.Test.YtdgmkmadlnmhbaaRows
import Derived.Test.YtdgmkmadlnmhbaaLawRRuns
import Derived.Test.YtdgmkmadlnmhbaaArgsr
set_option linter.unusedVariables false
set_option linter.unusedSimpArgs false
namespace Go.Proofs.Ytdgmkmadlnmhbaa
open Go.ChangeShapes Go.WideShapes Go.ChangeAt Go.RowKit Go.Proofs.Sb

set_option maxRecDepth 100000 in
theorem requestRuns_lifted (os : Os) (started : os.Started) (H : Type) (enc : TypeId × Value → H) (F : Stop.Interp) :
    ReturnsInHanded {} Try.checked os 6 .any ((Rows.OpenSpec.upto Rows.requestRunsSpec).pre6 enc Try.prog Try.f6 Rows.requestRunsUptoRow.domain false) (((Rows.OpenSpec.upto Rows.requestRunsSpec).at F).post enc Try.prog Try.f6 false true false false) := by
  refine returnsInHanded_of_cond (C := Try.checked) (s := Rows.OpenSpec.upto Rows.requestRunsSpec) (k := Rows.uptoSmall) rfl Try.own started (by kernel_rfl) Try.func6
    (OpenSpec.witness (enc := enc) (C := Try.checked) (s := Rows.OpenSpec.upto Rows.requestRunsSpec) (k := Rows.uptoSmall) rfl false ⟨#[], #[.agg #[.int .u16 0, .slice none 0 0, .slice none 0 0, .bool false, .bool false, .int .i32 0, .bool false, .int .i64 0, .slice none 0 0, .bool false, .int .u16 0, .bool false, .int .i64 0], .slice none 0 0, .int .u8 0], []⟩ 8 (by kernel_rfl) (by kernel_rfl) (by kernel_rfl)
      (x := ([.agg [.lit (.int .u16 0), .nil, .nil, .lit (.bool false), .lit (.bool false), .lit (.int .i32 0), .lit (.bool false), .agg [.lit (.int .i64 0), .nil], .lit (.bool false), .lit (.int .u16 0), .lit (.bool false), .lit (.int .i64 0)], .nil, .lit (.int .u8 0)], [], [])) (by kernel_rfl) rfl (by kernel_rfl)) ?_
  intro W base args ds gs before hval0 hW _ hk0 _
  have hval : ∀ (j : Nat) t v, Try.f6.params[j]? = some t → args[j]? = some v → Value.okWide Try.prog W .any base t v := hval0
  have hW' := hW
  obtain ⟨p, q, hA0, hV, rfl, hfz, hnd⟩ := hW
  have hA : DataW.TrodAll enc Try.prog W 0 (fun _ => true) true Try.f6.params.toList args.toList ds p := hA0
  rw [Try.params6] at hA hval
  obtain ⟨v0, vs0, d0, ds0, p0, q0, hargs, rfl, rfl, h0, r0⟩ := trodAll_cons hA
  obtain ⟨v1, vs1, d1, ds1, p1, q1, rfl, rfl, rfl, h1, r1⟩ := trodAll_cons r0
  obtain ⟨v2, vs2, d2, ds2, p2, q2, rfl, rfl, rfl, h2, r2⟩ := trodAll_cons r1
  obtain ⟨rfl, rfl, rfl⟩ := trodAll_nil r2
  obtain rfl : args = #[v0, v1, v2] := by cases args; simp_all
  obtain ⟨rfl, rfl⟩ := trodVars_none hV
  have hk := bulk_small hk0
  have hB0 := hk d0 (by simp)
  have hB1 := hk d1 (by simp)
  have hB2 := hk d2 (by simp)
  obtain ⟨p0, r0, s0, u0, rfl, hs0⟩ := par_ofB (hval 0 30 v0 rfl rfl) h0 hB0
  obtain ⟨A1, n1, c1, l1, rfl, hs1⟩ := sl_ofB (hval 1 23 v1 rfl rfl) h1 hB1
  obtain ⟨f2, rfl, hs2⟩ := u8_of (hval 2 5 v2 rfl rfl) h2
  clear hA0 hval0
  refine (requestRuns_any hs0.1 hs0.2.1 hs0.2.2 hs1.1 hs1.2 hs2).mono fun e W' ⟨he, bel⟩ => ?_
  subst he
  exact ⟨_, rfl, _, _, _, [], _, [], hW', trodAll_mk1 (shut_bool Try.underlying4 _), (trodAll_cons_mk (Below.trod Try.laidOut (by kernel_rfl) (of_decide_eq_true (by kernel_rfl)) h0 bel (lt_of h0)) (trodAll_cons_mk (Below.trod Try.laidOut (by kernel_rfl) (of_decide_eq_true (by kernel_rfl)) h1 bel (lt_of h1)) (trodAll_cons_mk (Below.trod Try.laidOut (by kernel_rfl) (of_decide_eq_true (by kernel_rfl)) h2 bel (lt_of h2)) trodAll_mk0))), rfl, bel.frame _, fun h => by cases h⟩

theorem requestRuns_holds : Rows.RequestRunsUptoSaid :=
  OpenClaim.holds_of_cond 6 Try.f6 rfl rfl rfl rfl rfl rfl rfl ⟨rfl, rfl, rfl, rfl, rfl⟩ rfl rfl rfl rfl rfl (by kernel_rfl) Try.func6 (by kernel_rfl)
    (of_decide_eq_true (by kernel_rfl)) (by unfold Func.isWrapper; first | (rw [if_pos (by decide +kernel)]; kernel_rfl) | (rw [if_neg (by decide +kernel)]; exact ⟨rfl, rfl⟩))
    (fun os started H enc _ F => requestRuns_lifted os started H enc F)
end Go.Proofs.Ytdgmkmadlnmhbaa
