/- signalboxlaw09.ReplySupports returns true at every input, and each argument reads behind the call as it read before. No conditions. -/
import Derived.Test.YtfeeeighafflnaaRows
import Derived.Test.YtfeeeighafflnaaLawYPuts
import Derived.Test.YtfeeeighafflnaaArgsw
set_option linter.unusedVariables false
set_option linter.unusedSimpArgs false
namespace Go.Proofs.Ytfeeeighafflnaa
open Go.ChangeShapes Go.WideShapes Go.ChangeAt Go.RowKit Go.Proofs.Sb

set_option maxRecDepth 100000 in
theorem replySupports_lifted (os : Os) (started : os.Started) (H : Type) (enc : TypeId × Value → H) :
    ReturnsInHanded {} Try.checked os 7 .any (Rows.replySupportsSpec.pre6 enc Try.prog Try.f7 Rows.replySupportsRow.domain false) (Rows.replySupportsSpec.post enc Try.prog Try.f7 false true false false) := by
  refine returnsInHanded_of_change_sized (C := Try.checked) Try.own started (by kernel_rfl) Try.func7
    (ChangeSpec.witness6 (enc := enc) (C := Try.checked) false ⟨#[], #[.slice none 0 0, .string ByteArray.empty, .agg #[.int .i64 0, .slice none 0 0]], []⟩ 8 (by kernel_rfl) (by kernel_rfl) (by kernel_rfl) (by kernel_rfl)) ?_
  intro W base args ds gs before hval0 hW hcnd hsz0 hrch
  have hval : ∀ (j : Nat) t v, Try.f7.params[j]? = some t → args[j]? = some v → Value.okWide Try.prog W .any base t v := hval0
  have hW' := hW
  obtain ⟨p, q, hA0, hV, rfl, hfz, hnd⟩ := hW
  have hA : DataW.TrodAll enc Try.prog W 0 (fun _ => true) true Try.f7.params.toList args.toList ds p := hA0
  have hsz : (DataW.weightsEach Try.prog (Try.f7.params.toList ++ Rows.replySupportsSpec.plain.varTypes Try.prog) (ds ++ gs)).all (· ≤ reachBytes) = true := hsz0
  rw [Try.params7] at hA hval hsz
  obtain ⟨v0, vs0, d0, ds0, p0, q0, hargs, rfl, rfl, h0, r0⟩ := trodAll_cons hA
  obtain ⟨v1, vs1, d1, ds1, p1, q1, rfl, rfl, rfl, h1, r1⟩ := trodAll_cons r0
  obtain ⟨v2, vs2, d2, ds2, p2, q2, rfl, rfl, rfl, h2, r2⟩ := trodAll_cons r1
  obtain ⟨rfl, rfl, rfl⟩ := trodAll_nil r2
  obtain rfl : args = #[v0, v1, v2] := by cases args; simp_all
  obtain ⟨rfl, rfl⟩ := trodVars_none hV
  have hB0 : Wt 29 d0 := wt_arg (j := 0) hsz rfl rfl
  have hB1 : Wt 9 d1 := wt_arg (j := 1) hsz rfl rfl
  have hB2 : Wt 31 d2 := wt_arg (j := 2) hsz rfl rfl
  obtain ⟨A0, n0, c0, l0, rfl, hs0⟩ := multisA_ofW (hval 0 29 v0 rfl rfl) h0 hB0
  obtain ⟨s1, rfl, hs1⟩ := strA_ofW (hval 1 9 v1 rfl rfl) h1 hB1
  obtain ⟨x2, A2, n2, c2, rfl, hs2⟩ := valA_ofW (hval 2 31 v2 rfl rfl) h2 hB2
  clear hA0 hval0
  refine (replySupports_any hs0.1 (Nat.le_trans hs0.2.1 (by decide)) (fun y hy => Nat.le_trans (hs0.2.2 y hy) (by decide)) (_root_.Sb.strOk_of hs1 (by decide)) hs2.1 (Nat.le_trans hs2.2 (by decide))).mono fun e W' ⟨he, bel⟩ => ?_
  subst he
  exact ⟨_, rfl, _, _, _, [], _, [], hW', trodAll_mk1 (shut_bool Try.underlying4 _), (trodAll_cons_mk (Below.trod Try.laidOut (by kernel_rfl) (of_decide_eq_true (by kernel_rfl)) h0 bel (lt_of h0)) (trodAll_cons_mk (Below.trod Try.laidOut (by kernel_rfl) (of_decide_eq_true (by kernel_rfl)) h1 bel (lt_of h1)) (trodAll_cons_mk (Below.trod Try.laidOut (by kernel_rfl) (of_decide_eq_true (by kernel_rfl)) h2 bel (lt_of h2)) trodAll_mk0))), rfl, bel.frame _, fun h => by cases h⟩

theorem replySupports_holds : Rows.ReplySupportsSaid :=
  OpenClaim.holds_of_wide 7 Try.f7 rfl rfl rfl rfl rfl rfl rfl ⟨rfl, rfl, rfl, rfl, rfl⟩ rfl rfl rfl rfl rfl (by kernel_rfl) Try.func7 (by kernel_rfl)
    (of_decide_eq_true (by kernel_rfl)) (by unfold Func.isWrapper; first | (rw [if_pos (by decide +kernel)]; kernel_rfl) | (rw [if_neg (by decide +kernel)]; exact ⟨rfl, rfl⟩))
    (fun os started H enc _ => replySupports_lifted os started H enc)
end Go.Proofs.Ytfeeeighafflnaa
