/- The walk over signalboxref09.Put. Conditions: each part's length up to 10^9, but for the token's. -/
import Derived.Test.YtfeeeighafflnaaGreatRyj
set_option linter.unusedVariables false
set_option linter.unusedSimpArgs false
namespace Sb
theorem both_ok {a : B} {r : Wr} {b : B} (h : r = .ok b) : bothW (.ok a) r = .ok (a ++ b) := by subst h; rfl
theorem both_err {a : B} {r : Wr} {e : Int} (h : r = .error e) : bothW (.ok a) r = .error e := by subst h; rfl
theorem first_v {op : Nat} {l0 : B} (h : firstL op = some l0) (hm : (118 : UInt8) ∈ l0) : l0 = [118] := by
  unfold firstL at h
  repeat' split at h
  all_goals first | (injection h with h; subst h; first | rfl | (exfalso; revert hm; decide)) | (cases h)
theorem fp_v (c : Nat) : (118 : UInt8) ∉ fpL c := by
  unfold fpL
  repeat' split
  all_goals decide
theorem then_v {L : Nat} {x : Rf} {mo : B} (h : thenL L x = some mo) : (118 : UInt8) ∉ mo := by
  unfold thenL boolL at h
  repeat' split at h
  all_goals first | (injection h with h; subst h; first | exact fp_v _ | decide) | (cases h)
/-- one part more: how long -/
theorem put_step {x : Rf} {k : Nat} {cl : UInt8} {ls' mo acc b : B} (hB : x.token.bytes.length ≤ 140737488351232) (hW : ∀ L b, L ≠ 118 → writeL L x = .ok b → b.length ≤ 1000000000) (hk : k ≤ 8) (hac : acc.length ≤ 1000000000 * k)
    (hv : (118 : UInt8) ∈ cl :: ls' → acc = [] ∧ cl :: ls' = [118]) (ht : thenL cl.toNat x = some mo) (hb : writeL cl.toNat x = .ok b) :
    acc.length + b.length ≤ 140737488355328 ∧ (mo ++ ls' ≠ [] → (acc ++ b).length ≤ 1000000000 * (k + 1)) ∧ ((118 : UInt8) ∈ mo ++ ls' → acc ++ b = [] ∧ mo ++ ls' = [118]) := by
  have h3 : (118 : UInt8) ∉ mo ++ ls' := by
    intro hm
    rcases List.mem_append.1 hm with hm | hm
    · exact then_v ht hm
    · have := (hv (List.mem_cons_of_mem _ hm)).2
      injection this with _ h2
      rw [h2] at hm
      cases hm
  by_cases h8 : cl.toNat = 118
  · have hcl : cl = 118 := UInt8.toNat_inj.1 (by rw [h8]; rfl)
    obtain ⟨ha, h2⟩ := hv (by rw [hcl]; exact List.mem_cons_self)
    injection h2 with _ h2
    rw [h8] at ht hb
    have hm : mo = [] := by
      have e : thenL 118 x = some [] := rfl
      rw [e] at ht
      injection ht with ht
      exact ht.symm
    have hl : b.length ≤ 4 + x.token.bytes.length := by
      have h := valueS_len x.token
      have e : value x.token = .ok b := hb
      rw [e] at h
      have e2 : lenS (.ok b : Wr) = b.length := rfl
      omega
    refine ⟨?_, fun h => absurd (by rw [hm, h2]; rfl) h, fun h => absurd h h3⟩
    rw [ha, List.length_nil]
    omega
  · have hl := hW _ b h8 hb
    exact ⟨by omega, fun _ => by rw [List.length_append]; omega, fun h => absurd h h3⟩
end Sb
namespace Go.Proofs.Sb
open Go.RowKit _root_.Sb
set_option maxHeartbeats 8000000 in
set_option maxRecDepth 100000 in
theorem rPut9ref_any {S : Nat → Prop} {x : Rf} {t : Tfs} {w : World} (hR : RfR S w x t) (hB : RfB x) (hW : ∀ L b, L ≠ 118 → writeL L x = .ok b → b.length ≤ 1000000000) (r : Wr) (hr : putRf x = r) (hn0 : r ≠ .error 0) :
    Calls Tryz.prog 8 #[.agg (rfV x t).toArray] w fun e w' => ∃ A n c, e = .returned (.tuple #[.slice A n c, .int .i64 (werr r)]) ∧ Sl (fun b => w.heap.size ≤ b) w' A n c (wval r) ∧ Below w.heap.size w w' := by
  have HRR := Lib.hid (goesRf.mono (S' := fun b => b < w.heap.size) hR fun b _ h => h); clear hR
  have HB := Lib.hid hB; clear hB
  have HWL := Lib.hid hW; clear hW
  have HR := Lib.hid hr; clear hr
  have HN0 := Lib.hid hn0; clear hn0
  obtain ⟨w1, hw1⟩ : ∃ w1, w1 = w.alloc (.cells (rfV x t).toArray 54) := ⟨_, rfl⟩
  have HB1 : Hid (Below w.heap.size w w1) := Lib.hid (by rw [hw1]; exact (Below.refl _ _).alloc (Nat.le_refl _) _)
  have HX1 : Hid (Bx (fun b => b = w.heap.size) w1 w.heap.size (rfV x t)) := Lib.hid (by rw [hw1]; exact Bx.alloc w (rfV x t).toArray 54 (X := w.heap.size) (S := fun b => b = w.heap.size) (by simp) (by simp))
  have HW := Lib.hid hw1; clear hw1
  have k0 := HX1.out.c 0 (.int .u8 ((x.opcode : Nat) : Int)) rfl
  go_enter Tryz.func8, Tryz.ntmps8
  go_upto_region 1 with fail
  rw [show w.alloc (.cells (rfV x t).toArray 54) = w1 from HW.out.symm]
  go_wp2_with fail
  refine (first_any (op := x.opcode)).mono ?_
  rintro e w2 ⟨rfl, rfl⟩
  clear k0
  obtain ⟨fo, hfo⟩ : ∃ fo, firstL x.opcode = fo := ⟨_, rfl⟩
  rw [hfo]
  have HFO := Lib.hid hfo; clear hfo
  cases fo with
  | none =>
    simp only [Option.getD_none, Option.isSome_none]
    obtain rfl : r = .error 22 := by rw [← HR.out]; unfold putRf; rw [HFO.out]
    go_wp2_with fail
    go_ret2
    exact ⟨none, 0, 0, rfl, Sl.nil, HB1.out⟩
  | some l0 =>
    simp only [Option.getD_some, Option.isSome_some]
    have hl0 := first_len HFO.out
    have HRUN0 : Hid (bothW (.ok []) (wrRf (9 - 0) l0 x) = r) := Lib.hid (by
      have e : putRf x = wrRf 9 l0 x := by unfold putRf; rw [HFO.out]
      rw [← HR.out, e, nil_both])
    go_wp2_with fail
    go_loopw [4, 6, 7] (fun l o i wr => ∃ (k n c : Nat) (A : Option Addr) (lv ls acc : B), l = .string (str lv) ∧ o = .slice A n c ∧ i = .int .i64 (k : Nat) ∧ k ≤ 9 ∧ lv.length ≤ 5 + 5 * k ∧ Hid (ls ≠ [] → acc.length ≤ 1000000000 * k) ∧ Hid ((118 : UInt8) ∈ ls → acc = [] ∧ ls = [118]) ∧ Hid (lv.drop k = ls ∧ k ≤ lv.length) ∧ Hid (bothW (.ok acc) (wrRf (9 - k) ls x) = r) ∧ Hid (Own (w.heap.size + 1) wr A n c acc) ∧ Hid (Bx (fun b => b = w.heap.size) wr w.heap.size (rfV x t)) ∧ Hid (Below w.heap.size w wr)) (fun _ _ i _ => 10 - (intOf i).toNat)
    case atStart => exact ⟨0, 0, 0, none, l0, l0, [], rfl, rfl, rfl, by omega, by omega, Lib.hid (fun _ => by simp), Lib.hid (fun h => ⟨rfl, first_v HFO.out h⟩), Lib.hid ⟨rfl, Nat.zero_le _⟩, HRUN0, Lib.hid Own.nil, HX1, HB1⟩
    case round =>
      obtain ⟨k, n, c, A, lv, ls, acc, rfl, rfl, rfl, hk, hlv, HAC0, HV0, HLS, HRUN, HO, HXr, HBr⟩ := hrel
      have hlx := HXr.out.lt
      by_cases hlt : k < lv.length
      · obtain ⟨cl, ls', hcl⟩ : ∃ cl ls', ls = cl :: ls' := by
          rw [← HLS.out.1, List.drop_eq_getElem_cons hlt]
          exact ⟨_, _, rfl⟩
        have hnx := take_drop_next (HLS.out.1.trans hcl)
        have HAC1 : Hid (acc.length ≤ 1000000000 * k) := Lib.hid (HAC0.out (by rw [hcl]; simp))
        have HV1 : Hid ((118 : UInt8) ∈ cl :: ls' → acc = [] ∧ cl :: ls' = [118]) := Lib.hid (by rw [← hcl]; exact HV0.out)
        clear HAC0 HV0
        have hk8 : k ≤ 8 := by
          rcases Nat.lt_or_ge 8 k with h | h
          · exfalso
            obtain rfl : k = 9 := by omega
            have := HRUN.out
            rw [hcl] at this
            exact HN0.out this.symm
          · exact h
        have HRUN2 : Hid (bothW (.ok acc) (thenX (thenL cl.toNat x) fun m => bothW (writeL cl.toNat x) (wrRf (8 - k) (m ++ ls') x)) = r) := Lib.hid (by
          have e : wrRf (8 - k + 1) (cl :: ls') x = thenX (thenL cl.toNat x) fun m => bothW (writeL cl.toNat x) (wrRf (8 - k) (m ++ ls') x) := rfl
          rw [← e, show 8 - k + 1 = 9 - k by omega, ← hcl]
          exact HRUN.out)
        have hix := run_idx lv k cl hnx.1
        have HNX := Lib.hid hnx.2.1
        have hkl := hnx.2.2
        clear hnx hcl HRUN
        have HRF := Lib.hid (goesRf.after HRR.out HBr.out)
        go_upto_region 8 with fail
        refine regf_start (fun b => wr.heap.size ≤ b) (by kernel_rfl) ?_
        (refine regf_take 1 (v := ?_) (by rfl) (by kernel_rfl) (by kernel_rfl) (by kernel_rfl) (by exact fun _ _ _ h => h) (by rfl) ?_ ?_; rotate_left; focus (intro w hSw; go_simp; try with_reducible rfl))
        simp only [Act.put, List.setIfInBounds_toArray, List.set_cons_zero, List.set_cons_succ]
        (refine regf_take 2 (v := ?_) (by rfl) (by kernel_rfl) (by kernel_rfl) (by kernel_rfl) (by exact fun _ _ _ h => h) (by rfl) ?_ ?_; rotate_left; focus (intro w hSw; go_simp; try with_reducible rfl))
        simp only [Act.put, List.setIfInBounds_toArray, List.set_cons_zero, List.set_cons_succ]
        (refine regf_take 3 (v := ?_) (by rfl) (by kernel_rfl) (by kernel_rfl) (by kernel_rfl) (by exact fun _ _ _ h => h) (by rfl) ?_ ?_; rotate_left; focus (intro w hSw; go_simp; try with_reducible rfl))
        simp only [Act.put, List.setIfInBounds_toArray, List.set_cons_zero, List.set_cons_succ]
        refine regf_call 0 (by kernel_rfl) (by rfl) (fun K hK => ?_)
        refine step_loadB (Bx.after HXr.out (Below.refl _ _).drew) (by rfl) 54 _ (by rfl) (by rfl) _ Tryz.underlying54 rfl (by kernel_rfl) ?_
        refine hK.out _ _ ((Fr.refl _ _)) ?_
        clear hK K
        try simp only [Act.put, List.setIfInBounds_toArray, List.set_cons_zero, List.set_cons_succ]
        refine regf_call 4 (by kernel_rfl) (by rfl) (fun K hK => ?_)
        go_simp
        go_at_call 15; refine (then_any (L := cl.toNat) (goesRf.after HRF.out (Below.refl _ _).drew)).mono ?_; rintro e w3 ⟨rfl, hb3⟩
        refine hK.out _ _ ((Fr.of_below hb3)) ?_
        clear hK K
        try simp only [Act.put, List.setIfInBounds_toArray, List.set_cons_zero, List.set_cons_succ]
        (refine regf_take 5 (v := ?_) (by rfl) (by kernel_rfl) (by kernel_rfl) (by kernel_rfl) (by exact fun _ _ _ h => h) (by rfl) ?_ ?_; rotate_left; focus (intro w hSw; go_simp; try with_reducible rfl))
        simp only [Act.put, List.setIfInBounds_toArray, List.set_cons_zero, List.set_cons_succ]
        (refine regf_take 6 (v := ?_) (by rfl) (by kernel_rfl) (by kernel_rfl) (by kernel_rfl) (by exact fun _ _ _ h => h) (by rfl) ?_ ?_; rotate_left; focus (intro w hSw; go_simp; try with_reducible rfl))
        simp only [Act.put, List.setIfInBounds_toArray, List.set_cons_zero, List.set_cons_succ]
        (refine regf_take 7 (v := ?_) (by rfl) (by kernel_rfl) (by kernel_rfl) (by kernel_rfl) (by exact fun _ _ _ h => h) (by rfl) ?_ ?_; rotate_left; focus (intro w hSw; go_simp; try with_reducible rfl))
        simp only [Act.put, List.setIfInBounds_toArray, List.set_cons_zero, List.set_cons_succ]
        (refine regf_take 8 (v := ?_) (by rfl) (by kernel_rfl) (by kernel_rfl) (by kernel_rfl) (by exact fun _ _ _ h => h) (by rfl) ?_ ?_; rotate_left; focus (intro w hSw; go_simp; try with_reducible rfl))
        simp only [Act.put, List.setIfInBounds_toArray, List.set_cons_zero, List.set_cons_succ]
        (refine regf_take 9 (v := ?_) (by rfl) (by kernel_rfl) (by kernel_rfl) (by kernel_rfl) (by exact fun _ _ _ h => h) (by rfl) ?_ ?_; rotate_left; focus (intro w hSw; go_simp; try with_reducible rfl))
        simp only [Act.put, List.setIfInBounds_toArray, List.set_cons_zero, List.set_cons_succ]
        refine wpAnyH_done (by kernel_rfl) ?_ _
        have hb3' : Below wr.heap.size wr w3 := Below.trans (show Below wr.heap.size wr wr.drew from (Below.refl _ _).drew) hb3
        have HX3 := Lib.hid (goesBx.after HXr.out hb3')
        have HRF3 := Lib.hid (goesRf.after HRF.out hb3')
        have HO3 := Lib.hid (HO.out.after hb3')
        have HB3 := Lib.hid (HBr.out.trans (hb3'.mono HBr.out.size))
        clear hb3 hb3' HXr HRF
        obtain ⟨th, hth⟩ : ∃ th, thenL cl.toNat x = th := ⟨_, rfl⟩
        rw [hth] at HRUN2 ⊢
        have HTH := Lib.hid hth; clear hth
        cases th with
        | none =>
          simp only [Option.getD_none, Option.isSome_none]
          obtain rfl : r = .error 11 := HRUN2.out.symm
          go_wp2_with fail
          go_ret2
          exact ⟨none, 0, 0, rfl, Sl.nil, HB3.out⟩
        | some mo =>
          simp only [Option.getD_some, Option.isSome_some]
          have hmo := then_len HTH.out
          have HRUN3 : Hid (bothW (.ok acc) (bothW (writeL cl.toNat x) (wrRf (8 - k) (mo ++ ls') x)) = r) := HRUN2
          clear HRUN2
          go_upto_region 11 with fail
          refine regf_start (fun b => w3.heap.size ≤ b) (by kernel_rfl) ?_
          (refine regf_take 1 (v := ?_) (by rfl) (by kernel_rfl) (by kernel_rfl) (by kernel_rfl) (by exact fun _ _ _ h => h) (by rfl) ?_ ?_; rotate_left; focus (intro w hSw; go_simp; try with_reducible rfl))
          simp only [Act.put, List.setIfInBounds_toArray, List.set_cons_zero, List.set_cons_succ]
          (refine regf_take 2 (v := ?_) (by rfl) (by kernel_rfl) (by kernel_rfl) (by kernel_rfl) (by exact fun _ _ _ h => h) (by rfl) ?_ ?_; rotate_left; focus (intro w hSw; go_simp; try with_reducible rfl))
          simp only [Act.put, List.setIfInBounds_toArray, List.set_cons_zero, List.set_cons_succ]
          (refine regf_take 3 (v := ?_) (by rfl) (by kernel_rfl) (by kernel_rfl) (by kernel_rfl) (by exact fun _ _ _ h => h) (by rfl) ?_ ?_; rotate_left; focus (intro w hSw; go_simp; try with_reducible rfl))
          simp only [Act.put, List.setIfInBounds_toArray, List.set_cons_zero, List.set_cons_succ]
          refine regf_call 0 (by kernel_rfl) (by rfl) (fun K hK => ?_)
          refine step_loadB (Bx.after HX3.out (Below.refl _ _).drew) (by rfl) 54 _ (by rfl) (by rfl) _ Tryz.underlying54 rfl (by kernel_rfl) ?_
          refine hK.out _ _ ((Fr.refl _ _)) ?_
          clear hK K
          try simp only [Act.put, List.setIfInBounds_toArray, List.set_cons_zero, List.set_cons_succ]
          refine regf_call 4 (by kernel_rfl) (by rfl) (fun K hK => ?_)
          go_simp
          go_at_call 16; refine (rwr_any (L := cl.toNat) (goesRf.mono (goesRf.after HRF3.out (Below.refl _ _).drew) (fun b hb _ => by have := HB3.out.size; show b < w3.heap.size; omega)) HB.out).mono ?_; rintro e w5 ⟨A5, n5, c5, rfl, hs5, hb5⟩
          refine hK.out _ _ ((Fr.of_below hb5)) ?_
          clear hK K
          try simp only [Act.put, List.setIfInBounds_toArray, List.set_cons_zero, List.set_cons_succ]
          (refine regf_take 5 (v := ?_) (by rfl) (by kernel_rfl) (by kernel_rfl) (by kernel_rfl) (by exact fun _ _ _ h => h) (by rfl) ?_ ?_; rotate_left; focus (intro w hSw; go_simp; try with_reducible rfl))
          simp only [Act.put, List.setIfInBounds_toArray, List.set_cons_zero, List.set_cons_succ]
          (refine regf_take 6 (v := ?_) (by rfl) (by kernel_rfl) (by kernel_rfl) (by kernel_rfl) (by exact fun _ _ _ h => h) (by rfl) ?_ ?_; rotate_left; focus (intro w hSw; go_simp; try with_reducible rfl))
          simp only [Act.put, List.setIfInBounds_toArray, List.set_cons_zero, List.set_cons_succ]
          (refine regf_take 7 (v := ?_) (by rfl) (by kernel_rfl) (by kernel_rfl) (by kernel_rfl) (by exact fun _ _ _ h => h) (by rfl) ?_ ?_; rotate_left; focus (intro w hSw; go_simp; try with_reducible rfl))
          simp only [Act.put, List.setIfInBounds_toArray, List.set_cons_zero, List.set_cons_succ]
          (refine regf_take 8 (v := ?_) (by rfl) (by kernel_rfl) (by kernel_rfl) (by kernel_rfl) (by exact fun _ _ _ h => h) (by rfl) ?_ ?_; rotate_left; focus (intro w hSw; go_simp; try with_reducible rfl))
          simp only [Act.put, List.setIfInBounds_toArray, List.set_cons_zero, List.set_cons_succ]
          (refine regf_take 9 (v := ?_) (by rfl) (by kernel_rfl) (by kernel_rfl) (by kernel_rfl) (by exact fun _ _ _ h => h) (by rfl) ?_ ?_; rotate_left; focus (intro w hSw; go_simp; try with_reducible rfl))
          simp only [Act.put, List.setIfInBounds_toArray, List.set_cons_zero, List.set_cons_succ]
          refine wpAnyH_done (by kernel_rfl) ?_ _
          have hb5' : Below w3.heap.size w3 w5 := Below.trans (show Below w3.heap.size w3 w3.drew from (Below.refl _ _).drew) hb5
          have HX5 := Lib.hid (goesBx.after HX3.out hb5')
          have HO5 := Lib.hid (HO3.out.after hb5')
          have HB5 := Lib.hid (HB3.out.trans (hb5'.mono HB3.out.size))
          have HS5 := Lib.hid hs5
          clear hb5 hb5' hs5 HX3 HO3
          obtain ⟨wr9, hwr9⟩ : ∃ q, writeL cl.toNat x = q := ⟨_, rfl⟩
          rw [hwr9] at HRUN3 HS5 ⊢
          have hwl := fun b h => put_step HB.out.token HWL.out hk8 HAC1.out HV1.out HTH.out (hwr9.trans (h : wr9 = .ok b))
          have HWL2 := Lib.hid hwl
          clear hwl hwr9
          cases wr9 with
          | error e =>
            have hr0 : r = .error e := HRUN3.out.symm.trans rfl
            have hne : (e != 0) = true := bne_iff_ne.2 (fun h => HN0.out (by rw [hr0, h]))
            subst hr0
            simp only [werr_error]
            go_wp2_with fail
            go_ret2
            exact ⟨none, 0, 0, rfl, Sl.nil, HB5.out⟩
          | ok cb =>
            have hcb := (HWL2.out cb rfl).1
            have HAC := Lib.hid (HWL2.out cb rfl).2.1
            have HV2 := Lib.hid (HWL2.out cb rfl).2.2
            have HS5' : Hid (Sl (fun b => w3.heap.size ≤ b) w5 A5 n5 c5 cb) := Lib.hid HS5.out
            simp only [werr_ok]
            have HRUN4 : Hid (bothW (.ok (acc ++ cb)) (wrRf (9 - (k + 1)) (mo ++ ls') x) = r) := Lib.hid (by
              rw [show 9 - (k + 1) = 8 - k by omega, ← HRUN3.out, ← bothS_assoc]
              rfl)
            have hsl1 := run_to lv (k + 1) (by omega)
            have hsl2 := run_from lv (k + 1) (by omega)
            have hlen1 : (lv.take (k + 1)).length = k + 1 := by rw [List.length_take]; omega
            have hlen2 : (lv.drop (k + 1)).length = lv.length - (k + 1) := List.length_drop
            have had1 := run_addS (lv.take (k + 1)) mo (by omega)
            have had2 := run_addS (lv.take (k + 1) ++ mo) (lv.drop (k + 1)) (by rw [List.length_append]; omega)
            have HLV : Hid ((lv.take (k + 1) ++ mo ++ lv.drop (k + 1)).drop (k + 1) = mo ++ ls' ∧ k + 1 ≤ (lv.take (k + 1) ++ mo ++ lv.drop (k + 1)).length) := Lib.hid ⟨next_drop hkl HNX.out, by rw [List.length_append, List.length_append]; omega⟩
            have HLL : Hid ((lv.take (k + 1) ++ mo ++ lv.drop (k + 1)).length ≤ 5 + 5 * (k + 1)) := Lib.hid (by rw [List.length_append, List.length_append]; omega)
            clear hlen1 hlen2 HS5 HRUN3
            go_upto_region 15 with (first | (at_builtin; refine wpList_appw rfl _ _ rfl (w.heap.size + 1) _ _ _ acc rfl HO5.out _ _ _ _ cb rfl HS5'.out (by omega) (by have := HX5.out.lt; omega) ?_; intro A6 n6 c6 w6 ho6 hg6 hw6; have HO6 := Lib.hid ho6; have HB6 := Lib.hid (below_grow HB5.out hg6 (by have := HB5.out.size; omega) (fun k e => by have := (HO5.out.block k e).1; omega)); have HX6 : Hid (Bx (fun b => b = w.heap.size) w6 w.heap.size (rfV x t)) := Lib.hid (goesBx.keep HX5.out hg6.size fun b hb hl => hg6.block b hl (fun e => by have := (HO5.out.block b e.symm).1; omega)); clear ho6 hg6 hw6))
            go_wp2_with fail
            go_quiet (fail)
            clear had1 had2 hsl1 hsl2 hix
            obtain ⟨w12, hw12⟩ : ∃ w12, w12 = w6.drewN nq := ⟨_, rfl⟩
            have hdr : Below w6.heap.size w6 w12 := by rw [hw12]; exact below_drewN (Below.refl _ _) _
            rw [← hw12]
            clear hw12
            go_wp2_with fail
            refine ⟨⟨k + 1, n6, c6, A6, lv.take (k + 1) ++ mo ++ lv.drop (k + 1), mo ++ ls', acc ++ cb, (by rw [← str_next lv mo (k + 1)]), by rfl, by go_num, by omega, HLL.out, HAC, HV2, HLV, HRUN4, Lib.hid (HO6.out.after hdr), Lib.hid (goesBx.after HX6.out hdr), Lib.hid (HB6.out.trans (hdr.mono HB6.out.size))⟩, by simp [intOf]; omega⟩
      · obtain rfl : ls = [] := by rw [← HLS.out.1]; exact List.drop_of_length_le (by omega)
        have hkk : k = lv.length := by have := HLS.out.2; omega
        obtain rfl : r = .ok acc := by
          rw [← HRUN.out, wr_nil]
          exact bothS_nil _
        have hlvk : (lv.length : Int) = (k : Int) := by omega
        clear hkk
        go_wp2_with fail
        go_ret2
        exact ⟨A, n, c, rfl, HO.out.sl.mono (fun b hb _ => by omega), HBr.out⟩
end Go.Proofs.Sb
