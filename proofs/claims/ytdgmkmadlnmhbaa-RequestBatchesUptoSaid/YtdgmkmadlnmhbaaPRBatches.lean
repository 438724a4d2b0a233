/- signalboxlaw08.RequestBatches returns true at every input, and each argument reads behind the call as it read before. No conditions. -/
import Derived.Test.YtdgmkmadlnmhbaaRows
import Derived.Test.YtdgmkmadlnmhbaaLawRBatches
import Derived.Test.YtdgmkmadlnmhbaaArgsr
import Derived.Test.YtdgmkmadlnmhbaaArgst
set_option linter.unusedVariables false
set_option linter.unusedSimpArgs false
namespace Go.Proofs.Ytdgmkmadlnmhbaa
open Go.ChangeShapes Go.WideShapes Go.ChangeAt Go.RowKit Go.Proofs.Sb

set_option maxRecDepth 100000 in
theorem requestBatches_lifted (os : Os) (started : os.Started) (H : Type) (enc : TypeId × Value → H) (F : Stop.Interp) :
    ReturnsInHanded {} Try.checked os 8 .any ((Rows.OpenSpec.upto Rows.requestBatchesSpec).pre6 enc Try.prog Try.f8 Rows.requestBatchesUptoRow.domain false) (((Rows.OpenSpec.upto Rows.requestBatchesSpec).at F).post enc Try.prog Try.f8 false true false false) := by
  refine returnsInHanded_of_cond (C := Try.checked) (s := Rows.OpenSpec.upto Rows.requestBatchesSpec) (k := Rows.uptoSmall) rfl Try.own started (by kernel_rfl) Try.func8
    (OpenSpec.witness (enc := enc) (C := Try.checked) (s := Rows.OpenSpec.upto Rows.requestBatchesSpec) (k := Rows.uptoSmall) rfl false ⟨#[], #[.int .u8 0, .slice none 0 0, .slice none 0 0, .slice none 0 0], []⟩ 8 (by kernel_rfl) (by kernel_rfl) (by kernel_rfl)
      (x := ([.lit (.int .u8 0), .nil, .nil, .nil], [], [])) (by kernel_rfl) rfl (by kernel_rfl)) ?_
  intro W base args ds gs before hval0 hW _ hk0 _
  have hval : ∀ (j : Nat) t v, Try.f8.params[j]? = some t → args[j]? = some v → Value.okWide Try.prog W .any base t v := hval0
  have hW' := hW
  obtain ⟨p, q, hA0, hV, rfl, hfz, hnd⟩ := hW
  have hA : DataW.TrodAll enc Try.prog W 0 (fun _ => true) true Try.f8.params.toList args.toList ds p := hA0
  rw [Try.params8] at hA hval
  obtain ⟨v0, vs0, d0, ds0, p0, q0, hargs, rfl, rfl, h0, r0⟩ := trodAll_cons hA
  obtain ⟨v1, vs1, d1, ds1, p1, q1, rfl, rfl, rfl, h1, r1⟩ := trodAll_cons r0
  obtain ⟨v2, vs2, d2, ds2, p2, q2, rfl, rfl, rfl, h2, r2⟩ := trodAll_cons r1
  obtain ⟨v3, vs3, d3, ds3, p3, q3, rfl, rfl, rfl, h3, r3⟩ := trodAll_cons r2
  obtain ⟨rfl, rfl, rfl⟩ := trodAll_nil r3
  obtain rfl : args = #[v0, v1, v2, v3] := by cases args; simp_all
  obtain ⟨rfl, rfl⟩ := trodVars_none hV
  have hk := bulk_small hk0
  have hB0 := hk d0 (by simp)
  have hB1 := hk d1 (by simp)
  have hB2 := hk d2 (by simp)
  have hB3 := hk d3 (by simp)
  obtain ⟨f0, rfl, hs0⟩ := u8_of (hval 0 5 v0 rfl rfl) h0
  obtain ⟨A1, n1, c1, l1, rfl, hs1⟩ := textsA_ofB (hval 1 26 v1 rfl rfl) h1 hB1
  obtain ⟨A2, n2, c2, l2, rfl, hs2⟩ := bools_of (hval 2 61 v2 rfl rfl) h2
  obtain ⟨A3, n3, c3, l3, rfl, hs3⟩ := valuesA_ofB (hval 3 25 v3 rfl rfl) h3 hB3
  clear hA0 hval0
  refine (requestBatches_any hs1.1 hs1.2.2 hs2 hs3.1 hs0 hs3.2.2).mono fun e W' ⟨he, bel⟩ => ?_
  subst he
  exact ⟨_, rfl, _, _, _, [], _, [], hW', trodAll_mk1 (shut_bool Try.underlying4 _), (trodAll_cons_mk (Below.trod Try.laidOut (by kernel_rfl) (of_decide_eq_true (by kernel_rfl)) h0 bel (lt_of h0)) (trodAll_cons_mk (Below.trod Try.laidOut (by kernel_rfl) (of_decide_eq_true (by kernel_rfl)) h1 bel (lt_of h1)) (trodAll_cons_mk (Below.trod Try.laidOut (by kernel_rfl) (of_decide_eq_true (by kernel_rfl)) h2 bel (lt_of h2)) (trodAll_cons_mk (Below.trod Try.laidOut (by kernel_rfl) (of_decide_eq_true (by kernel_rfl)) h3 bel (lt_of h3)) trodAll_mk0)))), rfl, bel.frame _, fun h => by cases h⟩

theorem requestBatches_holds : Rows.RequestBatchesUptoSaid :=
  OpenClaim.holds_of_cond 8 Try.f8 rfl rfl rfl rfl rfl rfl rfl ⟨rfl, rfl, rfl, rfl, rfl⟩ rfl rfl rfl rfl rfl (by kernel_rfl) Try.func8 (by kernel_rfl)
    (of_decide_eq_true (by kernel_rfl)) (by unfold Func.isWrapper; first | (rw [if_pos (by decide +kernel)]; kernel_rfl) | (rw [if_neg (by decide +kernel)]; exact ⟨rfl, rfl⟩))
    (fun os started H enc _ F => requestBatches_lifted os started H enc F)
end Go.Proofs.Ytdgmkmadlnmhbaa
