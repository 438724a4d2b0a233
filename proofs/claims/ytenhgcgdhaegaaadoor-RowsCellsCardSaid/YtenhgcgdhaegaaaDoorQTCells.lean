/- signalbox/signalboxlaw10.RowsCells: the tied card: it returns true at every input, and each argument reads behind the call as it read before. No conditions. -/
import Derived.Test.YtenhgcgdhaegaaaDoorCards
import Derived.Test.YtenhgcgdhaegaaaDoorTie
import Derived.WalkKit
import Derived.ProofKit
import Derived.OpenShut
import Derived.Deep.DeepHandedRow
import Derived.LaidMore
import Derived.Test.YtenhgcgdhaegaaaDoorLawTCells
import Derived.Test.YtenhgcgdhaegaaaDoorArgsta
set_option linter.unusedVariables false
set_option linter.unusedSimpArgs false
namespace Go.Proofs.YtenhgcgdhaegaaaDoor
open Go.ChangeShapes Go.WideShapes Go.ChangeAt Go.RowKit Go.Proofs.Sb

set_option maxRecDepth 100000 in
theorem rowsCells_lifted (os : Os) (started : os.Started) (H : Type) (enc : TypeId × Value → H) (F : Stop.Interp) :
    ReturnsInHanded {} Tryd.checked os 6 .any ((OpenSpec.ofChange Rows.rowsCellsSpec).preRow enc Tryd.prog Tryd.f6 Rows.rowsCellsRow.domain false Rows.rowsCellsRow.laid) (((OpenSpec.ofChange Rows.rowsCellsSpec).at F).post enc Tryd.prog Tryd.f6 false true false false) := by
  have hx : ∃ places, DataW.whole enc Tryd.prog ((World.doorLaid Tryd.prog 400 os).forCall (fun _ _ => 0) ⟨#[], #[.agg #[.int .i64 0, .slice none 0 0, .bool false, .int .i64 0, .slice none 0 0, .slice none 0 0], .int .i64 0, .string ByteArray.empty], []⟩).memory Tryd.f6.params.toList Rows.rowsCellsSpec.vars false #[.agg #[.int .i64 0, .slice none 0 0, .bool false, .int .i64 0, .slice none 0 0, .slice none 0 0], .int .i64 0, .string ByteArray.empty].toList 8 = some ([.agg [.lit (.int .i64 0), .nil, .lit (.bool false), .agg [.lit (.int .i64 0), .nil], .nil], .lit (.int .i64 0), .lit (.string [])], [], places) := ⟨[], by kernel_rfl⟩
  obtain ⟨places, hx⟩ := hx
  have hlaid : laidMet Tryd.prog Rows.rowsCellsRow.laid ((World.doorLaid Tryd.prog 400 os).forCall (fun _ _ => 0) ⟨#[], #[.agg #[.int .i64 0, .slice none 0 0, .bool false, .int .i64 0, .slice none 0 0, .slice none 0 0], .int .i64 0, .string ByteArray.empty], []⟩).memory := laidMet_of_run' 8 (by kernel_rfl) (by kernel_rfl)
  refine returnsInHanded_of_row (C := Tryd.checked) (s := (OpenSpec.ofChange Rows.rowsCellsSpec)) Tryd.own started (by kernel_rfl) Tryd.func6
    (witness_row_at (enc := enc) (C := Tryd.checked) false (World.doorLaid Tryd.prog 400 os) #[.agg #[.int .i64 0, .slice none 0 0, .bool false, .int .i64 0, .slice none 0 0, .slice none 0 0], .int .i64 0, .string ByteArray.empty] rfl (by kernel_rfl) (by kernel_rfl) (by kernel_rfl)
      (OpenSpec.preRow_of_cond 8 hx (by kernel_rfl) (fun k hk => by cases hk) (by kernel_rfl) hlaid)) ?_
  intro W base args ds gs before hval0 hW _ _ _ hL _ _
  have hval : ∀ (j : Nat) t v, Tryd.f6.params[j]? = some t → args[j]? = some v → Value.okWide Tryd.prog W .any base t v := hval0
  have hW' := hW
  obtain ⟨p, q, hA0, hV, rfl, hfz, hnd⟩ := hW
  have hA : DataW.TrodAll enc Tryd.prog W 0 (fun _ => true) true Tryd.f6.params.toList args.toList ds p := hA0
  rw [Tryd.params6] at hA hval
  obtain ⟨v0, vs0, d0, ds0, p0, q0, hargs, rfl, rfl, h0, r0⟩ := trodAll_cons hA
  obtain ⟨v1, vs1, d1, ds1, p1, q1, rfl, rfl, rfl, h1, r1⟩ := trodAll_cons r0
  obtain ⟨v2, vs2, d2, ds2, p2, q2, rfl, rfl, rfl, h2, r2⟩ := trodAll_cons r1
  obtain ⟨rfl, rfl, rfl⟩ := trodAll_nil r2
  obtain rfl : args = #[v0, v1, v2] := by cases args; simp_all
  obtain ⟨rfl, rfl⟩ := trodVars_none hV
  have HPL : Pl W := pl_of hL
  obtain ⟨t0, D0, c0, d0', q0, rfl, hs0⟩ := tb_of (hval 0 29 v0 rfl rfl) h0
  obtain ⟨i1, rfl, wi1⟩ := int_of Tryd.underlying3 (hval 1 3 v1 rfl rfl) h1
  obtain ⟨s2, rfl, hs2⟩ := str_of_arg (hval 2 9 v2 rfl rfl) h2
  clear hA0 hval0
  refine (rowsCells_any hs0 HPL).mono fun e W' ⟨he, bel⟩ => ?_
  subst he
  exact ⟨_, rfl, _, _, _, [], _, [], hW', trodAll_mk1 (shut_bool Tryd.underlying4 _), (trodAll_cons_mk (Below.trod Tryd.laidOut (by kernel_rfl) (of_decide_eq_true (by kernel_rfl)) h0 bel (lt_of h0)) (trodAll_cons_mk (Below.trod Tryd.laidOut (by kernel_rfl) (of_decide_eq_true (by kernel_rfl)) h1 bel (lt_of h1)) (trodAll_cons_mk (Below.trod Tryd.laidOut (by kernel_rfl) (of_decide_eq_true (by kernel_rfl)) h2 bel (lt_of h2)) trodAll_mk0))), rfl, bel.frame _, fun h => by cases h⟩

theorem rowsCells_said : Rows.RowsCellsSaid :=
  OpenClaim.holds_of_cond 6 Tryd.f6 rfl rfl rfl rfl rfl rfl rfl ⟨rfl, rfl, rfl, rfl, rfl⟩ rfl rfl rfl rfl rfl (by kernel_rfl) Tryd.func6 (by kernel_rfl)
    (of_decide_eq_true (by kernel_rfl)) (by unfold Func.isWrapper; first | (rw [if_pos (by decide +kernel)]; kernel_rfl) | (rw [if_neg (by decide +kernel)]; exact ⟨rfl, rfl⟩))
    (fun os started H enc _ F => by rw [OpenClaim.pre_eq_preRow]; exact rowsCells_lifted os started H enc F)

theorem rowsCells_plain (f : FuncId) (fn : Func) (hf : Tryd.pinned.checked.prog.funcNamed "signalbox/signalboxlaw10.RowsCells" = some f) (hfn : Tryd.pinned.checked.prog.funcs[f]? = some fn) :
    false = Tryd.pinned.checked.prog.looks [] ∧ ∀ (j : Nat) t, fn.params[j]? = some t → Tryd.pinned.checked.prog.wantsStandIn t = false := by
  obtain rfl : f = 6 := Option.some.inj ((show Tryd.prog.funcNamed "signalbox/signalboxlaw10.RowsCells" = some 6 by kernel_rfl).symm.trans hf) |>.symm
  obtain rfl : fn = Tryd.f6 := (Option.some.inj (Tryd.func6.symm.trans hfn)).symm
  refine ⟨by kernel_rfl, fun j t ht => ?_⟩
  have all : (Tryd.f6.params.all fun t => !Tryd.prog.wantsStandIn t) = true := by kernel_rfl
  have h := Array.all_eq_true'.1 all t (Array.mem_of_getElem? ht)
  show Tryd.prog.wantsStandIn t = false
  simpa using h

theorem rowsCells_card : Rows.RowsCellsCardSaid :=
  Claim7.holds_tied_plain_at .later [] _ _ _ _ rowsCells_said (fun _ h => by cases h) (by kernel_rfl) (fun _ h => by cases h) rowsCells_row_tie rfl ⟨rfl, rfl⟩ (by kernel_rfl) rfl rowsCells_plain (by kernel_rfl)
end Go.Proofs.YtenhgcgdhaegaaaDoor
