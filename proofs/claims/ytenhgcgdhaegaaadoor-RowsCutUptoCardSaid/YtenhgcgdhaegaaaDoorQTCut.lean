/- signalbox/signalboxlaw10.RowsCut: the tied card: it returns true up to a bulk, and each argument reads behind the call as it read before. No conditions. -/
import Derived.Test.YtenhgcgdhaegaaaDoorCards
import Derived.Test.YtenhgcgdhaegaaaDoorTie
import Derived.WalkKit
import Derived.ProofKit
import Derived.OpenShut
import Derived.Deep.DeepHandedRow
import Derived.LaidMore
import Derived.Test.YtenhgcgdhaegaaaDoorLawTCut
import Derived.Test.YtenhgcgdhaegaaaDoorArgsta
set_option linter.unusedVariables false
set_option linter.unusedSimpArgs false
namespace Go.Proofs.YtenhgcgdhaegaaaDoor
open Go.ChangeShapes Go.WideShapes Go.ChangeAt Go.RowKit Go.Proofs.Sb

set_option maxRecDepth 100000 in
theorem rowsCut_lifted (os : Os) (started : os.Started) (H : Type) (enc : TypeId × Value → H) (F : Stop.Interp) :
    ReturnsInHanded {} Tryd.checked os 7 .any ((Rows.OpenSpec.upto Rows.rowsCutSpec).preRow enc Tryd.prog Tryd.f7 Rows.rowsCutUptoRow.domain false Rows.rowsCutUptoRow.laid) (((Rows.OpenSpec.upto Rows.rowsCutSpec).at F).post enc Tryd.prog Tryd.f7 false true false false) := by
  have hx : ∃ places, DataW.whole enc Tryd.prog ((World.doorLaid Tryd.prog 400 os).forCall (fun _ _ => 0) ⟨#[], #[.agg #[.int .i64 0, .slice none 0 0, .bool false, .int .i64 0, .slice none 0 0, .slice none 0 0], .bool false, .int .i64 0, .int .u8 0], []⟩).memory Tryd.f7.params.toList Rows.rowsCutSpec.vars false #[.agg #[.int .i64 0, .slice none 0 0, .bool false, .int .i64 0, .slice none 0 0, .slice none 0 0], .bool false, .int .i64 0, .int .u8 0].toList 8 = some ([.agg [.lit (.int .i64 0), .nil, .lit (.bool false), .agg [.lit (.int .i64 0), .nil], .nil], .lit (.bool false), .lit (.int .i64 0), .lit (.int .u8 0)], [], places) := ⟨[], by kernel_rfl⟩
  obtain ⟨places, hx⟩ := hx
  have hlaid : laidMet Tryd.prog Rows.rowsCutUptoRow.laid ((World.doorLaid Tryd.prog 400 os).forCall (fun _ _ => 0) ⟨#[], #[.agg #[.int .i64 0, .slice none 0 0, .bool false, .int .i64 0, .slice none 0 0, .slice none 0 0], .bool false, .int .i64 0, .int .u8 0], []⟩).memory := laidMet_of_run' 8 (by kernel_rfl) (by kernel_rfl)
  refine returnsInHanded_of_row (C := Tryd.checked) (s := (Rows.OpenSpec.upto Rows.rowsCutSpec)) Tryd.own started (by kernel_rfl) Tryd.func7
    (witness_row_at (enc := enc) (C := Tryd.checked) false (World.doorLaid Tryd.prog 400 os) #[.agg #[.int .i64 0, .slice none 0 0, .bool false, .int .i64 0, .slice none 0 0, .slice none 0 0], .bool false, .int .i64 0, .int .u8 0] rfl (by kernel_rfl) (by kernel_rfl) (by kernel_rfl)
      (OpenSpec.preRow_of_cond 8 hx (by kernel_rfl) (fun k hk => by cases hk; kernel_rfl) (by kernel_rfl) hlaid)) ?_
  intro W base args ds gs before hval0 hW _ hcnd _ hL _ _
  have hk0 : Rows.uptoSmall H (ds ++ gs) = true := hcnd _ rfl
  have hval : ∀ (j : Nat) t v, Tryd.f7.params[j]? = some t → args[j]? = some v → Value.okWide Tryd.prog W .any base t v := hval0
  have hW' := hW
  obtain ⟨p, q, hA0, hV, rfl, hfz, hnd⟩ := hW
  have hA : DataW.TrodAll enc Tryd.prog W 0 (fun _ => true) true Tryd.f7.params.toList args.toList ds p := hA0
  rw [Tryd.params7] at hA hval
  obtain ⟨v0, vs0, d0, ds0, p0, q0, hargs, rfl, rfl, h0, r0⟩ := trodAll_cons hA
  obtain ⟨v1, vs1, d1, ds1, p1, q1, rfl, rfl, rfl, h1, r1⟩ := trodAll_cons r0
  obtain ⟨v2, vs2, d2, ds2, p2, q2, rfl, rfl, rfl, h2, r2⟩ := trodAll_cons r1
  obtain ⟨v3, vs3, d3, ds3, p3, q3, rfl, rfl, rfl, h3, r3⟩ := trodAll_cons r2
  obtain ⟨rfl, rfl, rfl⟩ := trodAll_nil r3
  obtain rfl : args = #[v0, v1, v2, v3] := by cases args; simp_all
  obtain ⟨rfl, rfl⟩ := trodVars_none hV
  have HPL : Pl W := pl_of hL
  have hk := bulk_small hk0
  have hB0 := hk d0 (by simp)
  have hB1 := hk d1 (by simp)
  have hB2 := hk d2 (by simp)
  have hB3 := hk d3 (by simp)
  obtain ⟨t0, D0, c0, d0', q0, rfl, hs0, hb0⟩ := tb_ofB (by decide) (hval 0 29 v0 rfl rfl) h0 hB0
  obtain ⟨b1, rfl⟩ := okWide_bool Tryd.underlying4 (hval 1 4 v1 rfl rfl)
  obtain ⟨i2, rfl, wi2⟩ := int_of Tryd.underlying3 (hval 2 3 v2 rfl rfl) h2
  obtain ⟨k3, rfl, hs3⟩ := u8_of (hval 3 5 v3 rfl rfl) h3
  clear hA0 hval0
  refine (rowsCut_any hs0 hb0 hs3 HPL).mono fun e W' ⟨he, bel⟩ => ?_
  subst he
  exact ⟨_, rfl, _, _, _, [], _, [], hW', trodAll_mk1 (shut_bool Tryd.underlying4 _), (trodAll_cons_mk (Below.trod Tryd.laidOut (by kernel_rfl) (of_decide_eq_true (by kernel_rfl)) h0 bel (lt_of h0)) (trodAll_cons_mk (Below.trod Tryd.laidOut (by kernel_rfl) (of_decide_eq_true (by kernel_rfl)) h1 bel (lt_of h1)) (trodAll_cons_mk (Below.trod Tryd.laidOut (by kernel_rfl) (of_decide_eq_true (by kernel_rfl)) h2 bel (lt_of h2)) (trodAll_cons_mk (Below.trod Tryd.laidOut (by kernel_rfl) (of_decide_eq_true (by kernel_rfl)) h3 bel (lt_of h3)) trodAll_mk0)))), rfl, bel.frame _, fun h => by cases h⟩

theorem rowsCut_said : Rows.RowsCutUptoSaid :=
  OpenClaim.holds_of_cond 7 Tryd.f7 rfl rfl rfl rfl rfl rfl rfl ⟨rfl, rfl, rfl, rfl, rfl⟩ rfl rfl rfl rfl rfl (by kernel_rfl) Tryd.func7 (by kernel_rfl)
    (of_decide_eq_true (by kernel_rfl)) (by unfold Func.isWrapper; first | (rw [if_pos (by decide +kernel)]; kernel_rfl) | (rw [if_neg (by decide +kernel)]; exact ⟨rfl, rfl⟩))
    (fun os started H enc _ F => by rw [OpenClaim.pre_eq_preRow]; exact rowsCut_lifted os started H enc F)

theorem rowsCut_plain (f : FuncId) (fn : Func) (hf : Tryd.pinned.checked.prog.funcNamed "signalbox/signalboxlaw10.RowsCut" = some f) (hfn : Tryd.pinned.checked.prog.funcs[f]? = some fn) :
    false = Tryd.pinned.checked.prog.looks [] ∧ ∀ (j : Nat) t, fn.params[j]? = some t → Tryd.pinned.checked.prog.wantsStandIn t = false := by
  obtain rfl : f = 7 := Option.some.inj ((show Tryd.prog.funcNamed "signalbox/signalboxlaw10.RowsCut" = some 7 by kernel_rfl).symm.trans hf) |>.symm
  obtain rfl : fn = Tryd.f7 := (Option.some.inj (Tryd.func7.symm.trans hfn)).symm
  refine ⟨by kernel_rfl, fun j t ht => ?_⟩
  have all : (Tryd.f7.params.all fun t => !Tryd.prog.wantsStandIn t) = true := by kernel_rfl
  have h := Array.all_eq_true'.1 all t (Array.mem_of_getElem? ht)
  show Tryd.prog.wantsStandIn t = false
  simpa using h

theorem rowsCut_card : Rows.RowsCutUptoCardSaid :=
  Claim7.holds_tied_plain_at .later [] _ _ _ _ rowsCut_said (fun _ h => by cases h) (by kernel_rfl) (fun _ h => by cases h) rowsCutUpto_row_tie rfl ⟨rfl, rfl⟩ (by kernel_rfl) rfl rowsCut_plain (by kernel_rfl)
end Go.Proofs.YtenhgcgdhaegaaaDoor
