/- signalbox/signalboxlaw10.RowsPuts: the tied card: it returns true up to a bulk, and each argument reads behind the call as it read before. No conditions. -/
import Derived.Test.YtenhgcgdhaegaaaDoorCards
import Derived.Test.YtenhgcgdhaegaaaDoorTie
import Derived.WalkKit
import Derived.ProofKit
import Derived.OpenShut
import Derived.Deep.DeepHandedRow
import Derived.LaidMore
import Derived.Test.YtenhgcgdhaegaaaDoorLawTPuts
import Derived.Test.YtenhgcgdhaegaaaDoorArgsta
set_option linter.unusedVariables false
set_option linter.unusedSimpArgs false
namespace Go.Proofs.YtenhgcgdhaegaaaDoor
open Go.ChangeShapes Go.WideShapes Go.ChangeAt Go.RowKit Go.Proofs.Sb

set_option maxRecDepth 100000 in
theorem rowsPuts_lifted (os : Os) (started : os.Started) (H : Type) (enc : TypeId × Value → H) (F : Stop.Interp) :
    ReturnsInHanded {} Tryd.checked os 5 .any ((Rows.OpenSpec.upto Rows.rowsPutsSpec).preRow enc Tryd.prog Tryd.f5 Rows.rowsPutsUptoRow.domain false Rows.rowsPutsUptoRow.laid) (((Rows.OpenSpec.upto Rows.rowsPutsSpec).at F).post enc Tryd.prog Tryd.f5 false true false false) := by
  have hx : ∃ places, DataW.whole enc Tryd.prog ((World.doorLaid Tryd.prog 400 os).forCall (fun _ _ => 0) ⟨#[], #[.agg #[.int .i64 0, .slice none 0 0, .bool false, .int .i64 0, .slice none 0 0, .slice none 0 0], .bool false], []⟩).memory Tryd.f5.params.toList Rows.rowsPutsSpec.vars false #[.agg #[.int .i64 0, .slice none 0 0, .bool false, .int .i64 0, .slice none 0 0, .slice none 0 0], .bool false].toList 8 = some ([.agg [.lit (.int .i64 0), .nil, .lit (.bool false), .agg [.lit (.int .i64 0), .nil], .nil], .lit (.bool false)], [], places) := ⟨[], by kernel_rfl⟩
  obtain ⟨places, hx⟩ := hx
  have hlaid : laidMet Tryd.prog Rows.rowsPutsUptoRow.laid ((World.doorLaid Tryd.prog 400 os).forCall (fun _ _ => 0) ⟨#[], #[.agg #[.int .i64 0, .slice none 0 0, .bool false, .int .i64 0, .slice none 0 0, .slice none 0 0], .bool false], []⟩).memory := laidMet_of_run' 8 (by kernel_rfl) (by kernel_rfl)
  refine returnsInHanded_of_row (C := Tryd.checked) (s := (Rows.OpenSpec.upto Rows.rowsPutsSpec)) Tryd.own started (by kernel_rfl) Tryd.func5
    (witness_row_at (enc := enc) (C := Tryd.checked) false (World.doorLaid Tryd.prog 400 os) #[.agg #[.int .i64 0, .slice none 0 0, .bool false, .int .i64 0, .slice none 0 0, .slice none 0 0], .bool false] rfl (by kernel_rfl) (by kernel_rfl) (by kernel_rfl)
      (OpenSpec.preRow_of_cond 8 hx (by kernel_rfl) (fun k hk => by cases hk; kernel_rfl) (by kernel_rfl) hlaid)) ?_
  intro W base args ds gs before hval0 hW _ hcnd _ hL _ _
  have hk0 : Rows.uptoSmall H (ds ++ gs) = true := hcnd _ rfl
  have hval : ∀ (j : Nat) t v, Tryd.f5.params[j]? = some t → args[j]? = some v → Value.okWide Tryd.prog W .any base t v := hval0
  have hW' := hW
  obtain ⟨p, q, hA0, hV, rfl, hfz, hnd⟩ := hW
  have hA : DataW.TrodAll enc Tryd.prog W 0 (fun _ => true) true Tryd.f5.params.toList args.toList ds p := hA0
  rw [Tryd.params5] at hA hval
  obtain ⟨v0, vs0, d0, ds0, p0, q0, hargs, rfl, rfl, h0, r0⟩ := trodAll_cons hA
  obtain ⟨v1, vs1, d1, ds1, p1, q1, rfl, rfl, rfl, h1, r1⟩ := trodAll_cons r0
  obtain ⟨rfl, rfl, rfl⟩ := trodAll_nil r1
  obtain rfl : args = #[v0, v1] := by cases args; simp_all
  obtain ⟨rfl, rfl⟩ := trodVars_none hV
  have HPL : Pl W := pl_of hL
  have hk := bulk_small hk0
  have hB0 := hk d0 (by simp)
  have hB1 := hk d1 (by simp)
  obtain ⟨t0, D0, c0, d0', q0, rfl, hs0, hb0⟩ := tb_ofB (by decide) (hval 0 29 v0 rfl rfl) h0 hB0
  obtain ⟨b1, rfl⟩ := okWide_bool Tryd.underlying4 (hval 1 4 v1 rfl rfl)
  clear hA0 hval0
  refine (rowsPuts_any hs0 hb0 HPL).mono fun e W' ⟨he, bel⟩ => ?_
  subst he
  exact ⟨_, rfl, _, _, _, [], _, [], hW', trodAll_mk1 (shut_bool Tryd.underlying4 _), (trodAll_cons_mk (Below.trod Tryd.laidOut (by kernel_rfl) (of_decide_eq_true (by kernel_rfl)) h0 bel (lt_of h0)) (trodAll_cons_mk (Below.trod Tryd.laidOut (by kernel_rfl) (of_decide_eq_true (by kernel_rfl)) h1 bel (lt_of h1)) trodAll_mk0)), rfl, bel.frame _, fun h => by cases h⟩

theorem rowsPuts_said : Rows.RowsPutsUptoSaid :=
  OpenClaim.holds_of_cond 5 Tryd.f5 rfl rfl rfl rfl rfl rfl rfl ⟨rfl, rfl, rfl, rfl, rfl⟩ rfl rfl rfl rfl rfl (by kernel_rfl) Tryd.func5 (by kernel_rfl)
    (of_decide_eq_true (by kernel_rfl)) (by unfold Func.isWrapper; first | (rw [if_pos (by decide +kernel)]; kernel_rfl) | (rw [if_neg (by decide +kernel)]; exact ⟨rfl, rfl⟩))
    (fun os started H enc _ F => by rw [OpenClaim.pre_eq_preRow]; exact rowsPuts_lifted os started H enc F)

theorem rowsPuts_plain (f : FuncId) (fn : Func) (hf : Tryd.pinned.checked.prog.funcNamed "signalbox/signalboxlaw10.RowsPuts" = some f) (hfn : Tryd.pinned.checked.prog.funcs[f]? = some fn) :
    false = Tryd.pinned.checked.prog.looks [] ∧ ∀ (j : Nat) t, fn.params[j]? = some t → Tryd.pinned.checked.prog.wantsStandIn t = false := by
  obtain rfl : f = 5 := Option.some.inj ((show Tryd.prog.funcNamed "signalbox/signalboxlaw10.RowsPuts" = some 5 by kernel_rfl).symm.trans hf) |>.symm
  obtain rfl : fn = Tryd.f5 := (Option.some.inj (Tryd.func5.symm.trans hfn)).symm
  refine ⟨by kernel_rfl, fun j t ht => ?_⟩
  have all : (Tryd.f5.params.all fun t => !Tryd.prog.wantsStandIn t) = true := by kernel_rfl
  have h := Array.all_eq_true'.1 all t (Array.mem_of_getElem? ht)
  show Tryd.prog.wantsStandIn t = false
  simpa using h

theorem rowsPuts_card : Rows.RowsPutsUptoCardSaid :=
  Claim7.holds_tied_plain_at .later [] _ _ _ _ rowsPuts_said (fun _ h => by cases h) (by kernel_rfl) (fun _ h => by cases h) rowsPutsUpto_row_tie rfl ⟨rfl, rfl⟩ (by kernel_rfl) rfl rowsPuts_plain (by kernel_rfl)
end Go.Proofs.YtenhgcgdhaegaaaDoor
