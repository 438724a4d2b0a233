/- The walk over signalboxlaw09.ReplyGets: true at every input, and nothing that was there has turned. Conditions: none. -/
import Derived.Test.YtfeeeighafflnaaAwake9
import Derived.Test.YtfeeeighafflnaaRyo
import Derived.Test.YtfeeeighafflnaaRyj
import Derived.Test.YtfeeeighafflnaaRym
import Derived.Test.YtfeeeighafflnaaRyl
import Derived.Deep.CutBlock
import Derived.Deep.DeepCutAuto
import Derived.Deep.QuietTactic
import Derived.BigQuiet
set_option linter.unusedVariables false
set_option linter.unusedSimpArgs false
namespace Sb
open Go.Proofs.Sb
section
variable {L : Nat}
theorem gbTextsN : Gb L getTexts (fun l => l.length ≤ 1000000) := (gbL gbText).imp fun l h => by have := h.2; omega
theorem gbMultiN : Gb L multiR (fun y => y.2.length ≤ 1000000) := by
  rw [show multiR = bothR getText getTexts from rfl, eqBoth]
  exact gbText.bind fun _ _ => gbTextsN.bind fun _ h => .pure h
theorem gbTailN (t : B) : Gb L (tailR t) (fun p => p.2.length ≤ 1000000) :=
  .ite (gbText.bind fun n hn => gbTextsN.bind fun a ha => .pure ha) (.ite (gbText.bind fun n hn => .pure (Nat.zero_le _)) (.pure (Nat.zero_le _)))
theorem gbChgN : Gb L chgR (fun c => c.args.length ≤ 1000000) :=
  (gbWord _).bind fun a ha => (gbWord _).bind fun t ht => gbText.bind fun s hs => (gbTailN t).bind fun p hp => .pure hp
theorem gbFltTN (c : Nat) (t : B) : Gb L (fltTR c t) (fun f => f.args.length ≤ 1000000) := by
  have hz : ([] : List B).length ≤ 1000000 := Nat.zero_le _
  exact .ite (gbCons.bind fun l hl => gbNum.bind fun n hn => gbNum.bind fun r hr => .pure hz)
    (.ite (gbCons.bind fun l hl => gbNum.bind fun r hr => gbNum.bind fun n hn => gbText.bind fun w hw => .pure hz)
    (.ite (gbCons.bind fun l hl => gbNum.bind fun r hr => gbNum.bind fun n hn => (gbN 1).bind fun d hd => .pure hz)
    (.ite (gbCons.bind fun l hl => gbNum.bind fun r hr => gbNum.bind fun n hn => gbNum.bind fun f hf => (gbN 1).bind fun d hd => .pure hz)
    (.ite (gbCons.bind fun l hl => gbNum.bind fun r hr => gbNum.bind fun n hn => gbNum.bind fun f hf => gbText.bind fun w hw => .pure hz)
    (.ite (gbText.bind fun s hs => gbText.bind fun n hn => gbTextsN.bind fun a ha => .pure ha)
    (.ite (gbText.bind fun s hs => gbText.bind fun n hn => .pure hz)
    (.ite (gbText.bind fun i hi => .pure hz) (.pure hz))))))))
theorem gbFltN : Gb L fltR (fun f => f.args.length ≤ 1000000) := (gbN 4).bind fun c _ => gbText.bind fun t _ => gbFltTN c t
theorem gbNteN : Gb L nteR (fun n => n.schema.args.length ≤ 1000000) :=
  (gbWord _).bind fun k _ => .ite (gbChgN.bind fun c hc => .pure hc) ((gbWord _).bind fun w _ => gbInet.bind fun a _ => .pure (Nat.zero_le _))
theorem rpL_of (op : Nat) : RpL (Rp.of op) := ⟨Nat.zero_le _, Nat.zero_le _, Nat.zero_le _, Nat.zero_le _, fun y hy => by cases hy⟩
theorem gbResTN (k : Nat) : Gb L (resTR k) RpL := by
  have z := rpL_of 8
  have e : resTR k = fun b => if k = 1 then .ok ({ Rp.of 8 with kind := k }, b) else if k = 3 then bindR (getText b) fun s b => .ok ({ Rp.of 8 with kind := k, text := s }, b) else if k = 5 then bindR (chgR b) fun c b => .ok ({ Rp.of 8 with kind := k, change := c }, b) else if k = 4 then bindR (getText b) fun i b => bindR (allR b) fun r b => .ok ({ Rp.of 8 with kind := k, ident := i, rest := r }, b) else if k = 2 then bindR (allR b) fun r b => .ok ({ Rp.of 8 with kind := k, rest := r }, b) else .error 11 := rfl
  have ga : Gb L allR (fun _ => True) := fun b x r hb h => by obtain ⟨rfl, rfl⟩ := pureI h; exact ⟨trivial, Nat.zero_le _⟩
  rw [e]
  exact .ite (.pure { z with }) (.ite (gbText.bind fun s hs => .pure { z with }) (.ite (gbChgN.bind fun c hc => .pure { z with cg := hc })
    (.ite (gbText.bind fun i hi => ga.bind fun r hr => .pure { z with }) (.ite (ga.bind fun r hr => .pure { z with }) (.err _)))))
theorem gbRpN (op : Nat) : Gb L (partsRp op) RpL := by
  have z := rpL_of op
  exact .ite (gbFltN.bind fun f hf => .pure { z with fa := hf }) (.ite (.pure z) (.ite (gbText.bind fun s hs => .pure { z with })
    (.ite ((gbL gbMultiN).bind fun l hl => .pure { z with su := (by have := hl.2; show l.length ≤ _; omega), vals := hl.1 }) (.ite ((gbN 4).bind fun k hk => gbResTN k) (.ite (gbNteN.bind fun n hn => .pure { z with sc := hn }) (.ite (gbValue.bind fun v hv => .pure { z with }) (.err _)))))))
end
theorem rpOf_rpL {op : Nat} {b : B} {r : Except Int Rp} (h : getRp op b = r) : RpL (rpOf r) := by
  cases r with
  | error e => exact rpL_of 0
  | ok x => exact (gbRpN (L := b.length) op _ _ _ (Nat.le_refl _) (getRp_parts h)).1
theorem emap_val (r : Except Int Rp) : rfX (emap r) = rfOf (rpOf r) := by cases r <;> rfl
theorem emap_err (r : Except Int Rp) : erX (emap r) = erP r := by cases r <;> rfl
end Sb
namespace Go.Proofs.Sb
open Go.RowKit _root_.Sb
/-- a box read as a whole in a region that draws its order -/
theorem step_loadW {P : Program} {ops : Array Oper} {o : Oper} {a : Act} {w : World} {Q : Exit → Act → World → Prop} {K : Act → World → Prop} {E : Prop} {S : Nat → Prop} {X : Nat} {vs : List Value} (hB : Bx S w X vs) (hw : Region.wanted o (yielded ops a.tmps) = true) (ty : TypeId) (x : Operand) (ho : o.op = .load ty x) (hx : a.eval x = .pointer (some ⟨X, 0, none⟩)) (d : TypeDesc)
    (hu : P.underlying ty = some d) (hd : d.isRow = true) (hi : (P.info? ty).map (·.size) = some vs.length)
    (h : K (a.put o.dst (.agg vs.toArray)) w) : if Region.wanted o (yielded ops a.tmps) = true then Oper.wp P o a w K Q else E := by
  rw [if_pos hw]
  exact wp_load_mid ty x ho X 0 hx vs d hB.range hu hd hi h
set_option maxHeartbeats 8000000 in
set_option maxRecDepth 100000 in
theorem replyGets_any {S : Nat → Prop} {A : Option Addr} {n c op : Nat} {bs : B} {w : World} (hs : Sl S w A n c bs) :
    Calls Try.prog 3 #[.int .u8 (op : Int), .slice A n c] w fun e w' => e = .returned (.bool true) ∧ Below w.heap.size w w' := by
  have hcp := hs.cap
  have hcm := hs.capMax
  have HS := Lib.hid hs; clear hs
  obtain ⟨r, hr⟩ : ∃ r, getRp op bs = r := ⟨_, rfl⟩
  have HR := Lib.hid hr; clear hr
  obtain ⟨q, hq⟩ : ∃ q, q = rpOf r := ⟨_, rfl⟩
  have HQL : Hid (RpL q) := Lib.hid (hq ▸ rpOf_rpL HR.out)
  have HQE := Lib.hid hq; clear hq
  obtain ⟨er, her⟩ : ∃ er, er = erP r := ⟨_, rfl⟩
  have HER := Lib.hid her; clear her
  go_enter Try.func3, Try.ntmps3
  go_wp2_with fail
  refine (awake9 _).mono ?_
  rintro e w1 ⟨rfl, hb1⟩
  have HB1 := Lib.hid hb1; clear hb1
  by_cases hbig : 2000 < n
  · go_wp2_with fail
    go_ret
    exact ⟨rfl, HB1.out⟩
  · go_wp2_with fail
    refine (rGet9_any (op := op) (HS.out.after HB1.out) (by omega) r HR.out).mono ?_
    rintro e w2 ⟨t, rfl, hq2, hb2⟩
    rw [← HQE.out] at hq2
    rw [← HQE.out, ← HER.out]
    have HB2 := Lib.hid (HB1.out.trans (hb2.mono HB1.out.size))
    have HQ2 := Lib.hid hq2
    clear hq2 hb2
    obtain ⟨vs, hvs⟩ : ∃ vs, vs = rpT q t := ⟨_, rfl⟩
    have hvl := Lib.hid (show vs.length = 34 by rw [hvs]; rfl)
    have HV1 : Hid (vs.all (·.oneCell') = true) := Lib.hid (by rw [hvs]; rfl)
    rw [← hvs]
    have HVS := Lib.hid hvs; clear hvs
    go_upto_region 7 with (first | (refine wpList_store_newB (g := w2.heap.size) (by rfl) 39 (.tmp 6) (.tmp 20) (by rfl) w2 39 _ vs.toArray (by rfl) ?g2 ?g3 ?g4 ?g5 ?g6 ?g7 ?g8; ((case g2 => rfl); (case g3 => rfl); (case g4 => rfl); (case g5 => (show _ = some vs.length; rw [hvl.out]; kernel_rfl)); (case g6 => (show _ = vs.length; rw [hvl.out]; rfl)); (case g7 => exact HV1.out); intro w3 hb3 hz3 hx3; have HX3 : Hid (Bx (fun b => b = w2.heap.size) w3 w2.heap.size vs) := Lib.hid hx3; have HB3 := Lib.hid (HB2.out.trans (hb3.mono HB2.out.size)); have HQ3 := Lib.hid (goesRp.after HQ2.out hb3); clear hb3 hz3 hx3)))
    have hz3 : w2.heap.size < w3.heap.size := HX3.out.lt
    go_wp2_with fail
    refine (rGet9ref_any (op := op) (HS.out.after HB3.out) (by omega) (emap r) (by rw [getRf_eq, HR.out])).mono ?_
    rintro e w4 ⟨t4, rfl, hq4, hb4⟩
    rw [emap_val, ← HQE.out] at hq4
    rw [emap_val, emap_err, ← HQE.out, ← HER.out]
    have HB4 := Lib.hid (HB3.out.trans (hb4.mono HB3.out.size))
    have HQ4 := Lib.hid (goesRp.after HQ3.out hb4)
    have HX4 := Lib.hid (goesBx.after HX3.out hb4)
    have HF4 := Lib.hid hq4
    clear hq4 hb4 HX3 HQ3
    obtain ⟨us, hus⟩ : ∃ us, us = rfV (rfOf q) t4 := ⟨_, rfl⟩
    have hul := Lib.hid (show us.length = 27 by rw [hus]; rfl)
    have HU1 : Hid (us.all (·.oneCell') = true) := Lib.hid (by rw [hus]; rfl)
    rw [← hus]
    have HUS := Lib.hid hus; clear hus
    go_upto_region 8 with (first | (refine wpList_store_newB (g := w4.heap.size) (by rfl) 51 (.tmp 8) (.tmp 26) (by rfl) w4 51 _ us.toArray (by rfl) ?k2 ?k3 ?k4 ?k5 ?k6 ?k7 ?k8; ((case k2 => rfl); (case k3 => rfl); (case k4 => rfl); (case k5 => (show _ = some us.length; rw [hul.out]; kernel_rfl)); (case k6 => (show _ = us.length; rw [hul.out]; rfl)); (case k7 => exact HU1.out); intro w5 hb5 hz5 hx5; have HX5 : Hid (Bx (fun b => b = w4.heap.size) w5 w4.heap.size us) := Lib.hid hx5; have HB5 := Lib.hid (HB4.out.trans (hb5.mono HB4.out.size)); have HQ5 := Lib.hid (goesRp.after HQ4.out hb5); have HX6 := Lib.hid (goesBx.after HX4.out hb5); have HF5 := Lib.hid (goesRf.after HF4.out hb5); clear hb5 hz5 hx5)))
    have hz5 := HB5.out.size
    have hz6 := HX6.out.lt
    have hz7 := HX5.out.lt
    have hdr : Below w5.heap.size w5 w5.drew := (Below.refl _ _).drew
    have HXA := Lib.hid (goesBx.after HX6.out hdr)
    have HXB := Lib.hid (goesBx.after HX5.out hdr)
    have HQD := Lib.hid (goesRp.after HQ5.out hdr)
    have HFD := Lib.hid (goesRf.after HF5.out hdr)
    clear hdr
    refine reg_start (by kernel_rfl) ?_
    (refine reg_take 0 (v := ?_) (by rfl) (by kernel_rfl) (by kernel_rfl) (by kernel_rfl) (by exact fun _ _ _ h => h) (by rfl) ?_ ?_; rotate_left; focus (intro w hSw; go_simp; try with_reducible rfl))
    simp only [Act.put, List.setIfInBounds_toArray, List.set_cons_zero, List.set_cons_succ]
    (refine reg_take 1 (v := ?_) (by rfl) (by kernel_rfl) (by kernel_rfl) (by kernel_rfl) (by exact fun _ _ _ h => h) (by rfl) ?_ ?_; rotate_left; focus (intro w hSw; go_simp; try with_reducible rfl))
    simp only [Act.put, List.setIfInBounds_toArray, List.set_cons_zero, List.set_cons_succ]
    (refine reg_take 2 (v := ?_) (by rfl) (by kernel_rfl) (by kernel_rfl) (by kernel_rfl) (by exact fun _ _ _ h => h) (by rfl) ?_ ?_; rotate_left; focus (intro w hSw; go_simp; try with_reducible rfl))
    simp only [Act.put, List.setIfInBounds_toArray, List.set_cons_zero, List.set_cons_succ]
    (refine reg_take 3 (v := ?_) (by rfl) (by kernel_rfl) (by kernel_rfl) (by kernel_rfl) (by exact fun _ _ _ h => h) (by rfl) ?_ ?_; rotate_left; focus (intro w hSw; go_simp; try with_reducible rfl))
    simp only [Act.put, List.setIfInBounds_toArray, List.set_cons_zero, List.set_cons_succ]
    refine reg_two 4 6 (by kernel_rfl) (by rfl) (by rfl) (fun K hK => ?_) (fun K hK => ?_)
    focus
      refine step_loadW HXA.out (by rfl) 39 _ (by rfl) (by rfl) _ Try.underlying39 rfl (by rw [hvl.out]; kernel_rfl) ?_
      refine hK.out _ _ ((by unfold Aft; exact Below.refl _ _)) ?_
      clear hK K
      try simp only [Act.put, List.setIfInBounds_toArray, List.set_cons_zero, List.set_cons_succ]
      refine reg_two 5 6 (by kernel_rfl) (by rfl) (by rfl) (fun K hK => ?_) (fun K hK => ?_)
      focus
        go_simp
        go_at_call 12; have hof := replyOf_any HQD.out HQL.out; rw [← HVS.out] at hof; refine hof.mono ?_; clear hof; rintro e w8 ⟨t8, rfl, hq8, hb8⟩
        refine hK.out _ _ (hb8) ?_
        clear hK K
        try simp only [Act.put, List.setIfInBounds_toArray, List.set_cons_zero, List.set_cons_succ]
        refine reg_call 6 (by kernel_rfl) (by rfl) (fun K hK => ?_)
        first | (refine step_loadW HXB.out (by rfl) 51 _ (by rfl) (by rfl) _ Try.underlying51 rfl (by rw [hul.out]; kernel_rfl) ?_) | (refine step_loadW (goesBx.after HXB.out hb8) (by rfl) 51 _ (by rfl) (by rfl) _ Try.underlying51 rfl (by rw [hul.out]; kernel_rfl) ?_)
        refine hK.out _ _ ((by unfold Aft; exact Below.refl _ _)) ?_
        clear hK K
        try simp only [Act.put, List.setIfInBounds_toArray, List.set_cons_zero, List.set_cons_succ]
        refine reg_call 7 (by kernel_rfl) (by rfl) (fun K hK => ?_)
        go_simp
        go_at_call 11; have hsm := same9_any hq8 (goesRf.after HFD.out hb8); rw [← HUS.out] at hsm; refine hsm.mono ?_; clear hsm; rintro e w9 ⟨rfl, hb9⟩
        refine hK.out _ _ (hb9) ?_
        clear hK K
        try simp only [Act.put, List.setIfInBounds_toArray, List.set_cons_zero, List.set_cons_succ]
        (refine reg_take 8 (v := ?_) (by rfl) (by kernel_rfl) (by kernel_rfl) (by kernel_rfl) (by exact fun _ _ _ h => h) (by rfl) ?_ ?_; rotate_left; focus (intro w hSw; go_simp; try with_reducible rfl))
        simp only [Act.put, List.setIfInBounds_toArray, List.set_cons_zero, List.set_cons_succ]
        (refine reg_take 9 (v := ?_) (by rfl) (by kernel_rfl) (by kernel_rfl) (by kernel_rfl) (by exact fun _ _ _ h => h) (by rfl) ?_ ?_; rotate_left; focus (intro w hSw; go_simp; try with_reducible rfl))
        simp only [Act.put, List.setIfInBounds_toArray, List.set_cons_zero, List.set_cons_succ]
        refine wpAnyH_done (by kernel_rfl) ?_ _
      rotate_left 1
      focus
        first | (refine step_loadW HXB.out (by rfl) 51 _ (by rfl) (by rfl) _ Try.underlying51 rfl (by rw [hul.out]; kernel_rfl) ?_) | (refine step_loadW (goesBx.after HXB.out hb8) (by rfl) 51 _ (by rfl) (by rfl) _ Try.underlying51 rfl (by rw [hul.out]; kernel_rfl) ?_)
        refine hK.out _ _ ((by unfold Aft; exact Below.refl _ _)) ?_
        clear hK K
        try simp only [Act.put, List.setIfInBounds_toArray, List.set_cons_zero, List.set_cons_succ]
        refine reg_call 5 (by kernel_rfl) (by rfl) (fun K hK => ?_)
        go_simp
        go_at_call 12; have hof := replyOf_any HQD.out HQL.out; rw [← HVS.out] at hof; refine hof.mono ?_; clear hof; rintro e w8 ⟨t8, rfl, hq8, hb8⟩
        refine hK.out _ _ (hb8) ?_
        clear hK K
        try simp only [Act.put, List.setIfInBounds_toArray, List.set_cons_zero, List.set_cons_succ]
        refine reg_call 7 (by kernel_rfl) (by rfl) (fun K hK => ?_)
        go_simp
        go_at_call 11; have hsm := same9_any hq8 (goesRf.after HFD.out hb8); rw [← HUS.out] at hsm; refine hsm.mono ?_; clear hsm; rintro e w9 ⟨rfl, hb9⟩
        refine hK.out _ _ (hb9) ?_
        clear hK K
        try simp only [Act.put, List.setIfInBounds_toArray, List.set_cons_zero, List.set_cons_succ]
        (refine reg_take 8 (v := ?_) (by rfl) (by kernel_rfl) (by kernel_rfl) (by kernel_rfl) (by exact fun _ _ _ h => h) (by rfl) ?_ ?_; rotate_left; focus (intro w hSw; go_simp; try with_reducible rfl))
        simp only [Act.put, List.setIfInBounds_toArray, List.set_cons_zero, List.set_cons_succ]
        (refine reg_take 9 (v := ?_) (by rfl) (by kernel_rfl) (by kernel_rfl) (by kernel_rfl) (by exact fun _ _ _ h => h) (by rfl) ?_ ?_; rotate_left; focus (intro w hSw; go_simp; try with_reducible rfl))
        simp only [Act.put, List.setIfInBounds_toArray, List.set_cons_zero, List.set_cons_succ]
        refine wpAnyH_done (by kernel_rfl) ?_ _
    rotate_left 2
    focus
      first | (refine step_loadW HXB.out (by rfl) 51 _ (by rfl) (by rfl) _ Try.underlying51 rfl (by rw [hul.out]; kernel_rfl) ?_) | (refine step_loadW (goesBx.after HXB.out hb8) (by rfl) 51 _ (by rfl) (by rfl) _ Try.underlying51 rfl (by rw [hul.out]; kernel_rfl) ?_)
      refine hK.out _ _ ((by unfold Aft; exact Below.refl _ _)) ?_
      clear hK K
      try simp only [Act.put, List.setIfInBounds_toArray, List.set_cons_zero, List.set_cons_succ]
      refine reg_call 4 (by kernel_rfl) (by rfl) (fun K hK => ?_)
      refine step_loadW HXA.out (by rfl) 39 _ (by rfl) (by rfl) _ Try.underlying39 rfl (by rw [hvl.out]; kernel_rfl) ?_
      refine hK.out _ _ ((by unfold Aft; exact Below.refl _ _)) ?_
      clear hK K
      try simp only [Act.put, List.setIfInBounds_toArray, List.set_cons_zero, List.set_cons_succ]
      refine reg_call 5 (by kernel_rfl) (by rfl) (fun K hK => ?_)
      go_simp
      go_at_call 12; have hof := replyOf_any HQD.out HQL.out; rw [← HVS.out] at hof; refine hof.mono ?_; clear hof; rintro e w8 ⟨t8, rfl, hq8, hb8⟩
      refine hK.out _ _ (hb8) ?_
      clear hK K
      try simp only [Act.put, List.setIfInBounds_toArray, List.set_cons_zero, List.set_cons_succ]
      refine reg_call 7 (by kernel_rfl) (by rfl) (fun K hK => ?_)
      go_simp
      go_at_call 11; have hsm := same9_any hq8 (goesRf.after HFD.out hb8); rw [← HUS.out] at hsm; refine hsm.mono ?_; clear hsm; rintro e w9 ⟨rfl, hb9⟩
      refine hK.out _ _ (hb9) ?_
      clear hK K
      try simp only [Act.put, List.setIfInBounds_toArray, List.set_cons_zero, List.set_cons_succ]
      (refine reg_take 8 (v := ?_) (by rfl) (by kernel_rfl) (by kernel_rfl) (by kernel_rfl) (by exact fun _ _ _ h => h) (by rfl) ?_ ?_; rotate_left; focus (intro w hSw; go_simp; try with_reducible rfl))
      simp only [Act.put, List.setIfInBounds_toArray, List.set_cons_zero, List.set_cons_succ]
      (refine reg_take 9 (v := ?_) (by rfl) (by kernel_rfl) (by kernel_rfl) (by kernel_rfl) (by exact fun _ _ _ h => h) (by rfl) ?_ ?_; rotate_left; focus (intro w hSw; go_simp; try with_reducible rfl))
      simp only [Act.put, List.setIfInBounds_toArray, List.set_cons_zero, List.set_cons_succ]
      refine wpAnyH_done (by kernel_rfl) ?_ _
    all_goals
      have HB9 : Hid (Below w.heap.size w w9) := Lib.hid (HB5.out.trans (((Below.refl w5.heap.size w5).drew.trans (hb8.trans (hb9.mono hb8.size))).mono hz5))
      clear hb8 hb9
      go_wp2_with fail
      go_ret
      exact ⟨by simp, HB9.out⟩
end Go.Proofs.Sb

/- The walk over signalboxlaw09.ReplyPuts: true at every input, and nothing that was there has turned. Conditions: lengths up to 2^20. -/
namespace Sb
open Go.Proofs.Sb
theorem rpL_small {x : Rp} (h : RpA 140737488355328 x) (s : RpS x) : RpL x := by
  have hc := s.cnt
  unfold cntP at hc
  exact ⟨by omega, by omega, by omega, by omega, fun y hy => by have := cntM_mem hy; omega⟩
theorem rfB_small {x : Rp} (h : RpA 140737488355328 x) (s : RpS x) : RfB (rfOf x) := by
  have hc := s.cnt
  have hr := s.rest
  have ht := h.token
  have ha := h.addr
  have hm := small_M s
  have hk := h.flt
  unfold cntP at hc
  refine ⟨hk.code, ?_, hk.level, hk.received, hk.needed, hk.failures, hk.data, hk.write, hk.space, hk.name, ?_, ?_, h.kind, h.what, ?_, h.port, ?_, h.rkind, ?_, ?_, 6700000, hm.1, by decide, ?_⟩
  · show strOk (if x.opcode = 0 then x.fault.text else x.text)
    split
    · exact hk.text
    · exact strOk_of h.text (by decide)
  · show strOk (if x.opcode = 0 then x.fault.ident else x.ident)
    split
    · exact hk.ident
    · exact strOk_of h.ident (by decide)
  · show x.token.bytes.length ≤ _; omega
  · exact strOk_of ha (by decide)
  · show ChgB (if x.opcode = 12 then x.note.schema else x.change)
    split
    · exact h.sch
    · exact h.chg
  · show x.rest.length ≤ _; omega
  · exact fun y hy => by have := cntM_mem (l := x.support) hy; omega
  · exact Nat.le_trans hm.2 (by decide)
theorem lenS_ite {c : Prop} [Decidable c] {a b : Wr} {n : Nat} (ha : lenS a ≤ n) (hb : lenS b ≤ n) : lenS (if c then a else b) ≤ n := by split <;> assumption
theorem wl_small {x : Rp} (h : RpA 140737488355328 x) (s : RpS x) (L : Nat) (hv : L ≠ 118) : lenS (writeL L (rfOf x)) ≤ 1000000000 := by
  have hc := s.cnt
  unfold cntP at hc
  have h1 := textsS_few (l := x.fault.args) (by omega)
  have h2 := textsS_few (l := x.note.schema.args) (by omega)
  have h3 := textsS_few (l := x.change.args) (by omega)
  have h4 := s.rest
  have hm := small_M s
  have ht : ∀ y, lenS (text y) ≤ 1000000000 := fun y => Nat.le_trans (textS_len y) (by decide)
  have hn : ∀ y, lenS (num4W y) ≤ 1000000000 := fun y => Nat.le_trans (num4S_len y) (by decide)
  have he : ∀ k y, k ≤ 1000000000 → lenS (.ok (enc k y)) ≤ 1000000000 := fun k y hk => by rw [encS_len]; exact hk
  have hch : lenS (texts (rfOf x).change.args) ≤ 1000000000 := by
    show lenS (texts (if x.opcode = 12 then x.note.schema else x.change).args) ≤ _
    split <;> omega
  have hsu : lenS (putL multiW x.support) ≤ 1000000000 := by
    cases hp : putL multiW x.support with
    | error e => exact Nat.zero_le _
    | ok b => have := (putL_len hm.1 hp).2; show b.length ≤ _; omega
  unfold writeL
  refine lenS_ite (he _ _ (by decide)) ?_
  refine lenS_ite (he _ _ (by decide)) ?_
  refine lenS_ite (ht _) ?_
  refine lenS_ite (Nat.le_trans (consS_len _) (by decide)) ?_
  refine lenS_ite (hn _) ?_
  refine lenS_ite (hn _) ?_
  refine lenS_ite (hn _) ?_
  refine lenS_ite (he _ _ (by decide)) ?_
  refine lenS_ite (ht _) ?_
  refine lenS_ite (ht _) ?_
  refine lenS_ite (ht _) ?_
  refine lenS_ite ((show lenS (texts x.fault.args) ≤ _ by omega)) ?_
  refine lenS_ite (ht _) ?_
  refine lenS_ite (hsu) ?_
  rw [if_neg hv]
  refine lenS_ite (ht _) ?_
  refine lenS_ite (ht _) ?_
  refine lenS_ite (Nat.le_trans (inetS_len _) (by decide)) ?_
  refine lenS_ite ((show x.rest.length ≤ _ by omega)) ?_
  refine lenS_ite (ht _) ?_
  refine lenS_ite (ht _) ?_
  refine lenS_ite (ht _) ?_
  refine lenS_ite (ht _) ?_
  refine lenS_ite (hch) ?_
  exact Nat.zero_le _
theorem wl_small' {x : Rp} (h : RpA 140737488355328 x) (s : RpS x) : ∀ L b, L ≠ 118 → writeL L (rfOf x) = .ok b → b.length ≤ 1000000000 := fun L b hv hb => by
  have := wl_small h s L hv
  rw [hb] at this
  exact this
end Sb
namespace Go.Proofs.Sb
open Go.RowKit _root_.Sb
set_option maxHeartbeats 8000000 in
set_option maxRecDepth 100000 in
theorem replyPuts_any {S : Nat → Prop} {w : World} {x : Rp} {t : Trs} (hq : RpR S w x t) (hb : RpA 140737488355328 x) :
    Calls Try.prog 4 #[.agg (rpT x t).toArray] w fun e w' => e = .returned (.bool true) ∧ Below w.heap.size w w' := by
  have HP := Lib.hid (goesRp.mono (S' := fun b => S b ∧ b < w.heap.size) hq fun b h1 h2 => ⟨h1, h2⟩); clear hq
  have HRB := Lib.hid hb; clear hb
  obtain ⟨vs, hvs⟩ : ∃ vs, vs = rpT x t := ⟨_, rfl⟩
  have hvl : vs.length = 34 := by rw [hvs]; rfl
  rw [← hvs]
  have HVS := Lib.hid hvs; clear hvs
  go_enter Try.func4, Try.ntmps4
  go_upto_region 1 with fail
  obtain ⟨w1, hw1⟩ : ∃ w1, w1 = w.alloc (.cells vs.toArray 39) := ⟨_, rfl⟩
  rw [← hw1]
  have hB1 : Below w.heap.size w w1 := by rw [hw1]; exact (Below.refl _ _).alloc (Nat.le_refl _) _
  have hbx : Bx (fun b => b = w.heap.size) w1 w.heap.size vs := by
    rw [hw1]; exact Bx.alloc w vs.toArray 39 (S := fun b => b = w.heap.size) rfl rfl
  have HBX1 := Lib.hid hbx; clear hbx hw1
  have HB1 := Lib.hid hB1; clear hB1
  go_wp2_with fail
  refine (awake9 _).mono ?_
  rintro e w2 ⟨rfl, hb2⟩
  have HB2 := Lib.hid (HB1.out.trans (hb2.mono HB1.out.size))
  have HBX2 := Lib.hid (goesBx.after HBX1.out hb2)
  clear hb2 HBX1
  go_wp2_with (first | (refine wpList_loadB HBX2.out (by rfl) 39 _ (by rfl) (by rfl) _ Try.underlying39 rfl (by rw [hvl]; kernel_rfl) ?_))
  have hsl := slight9_any (goesRp.after HP.out HB2.out) HRB.out
  rw [← HVS.out] at hsl
  refine hsl.mono ?_
  clear hsl
  rintro e w3 ⟨β, rfl, hβ, hb3⟩
  have HB3 := Lib.hid (HB2.out.trans (hb3.mono HB2.out.size))
  have HBX3 := Lib.hid (goesBx.after HBX2.out hb3)
  clear hb3 HBX2
  have HBE := Lib.hid hβ; clear hβ
  cases β with
  | false =>
    go_wp2_with fail
    go_ret
    exact ⟨rfl, HB3.out⟩
  | true =>
    have HL := Lib.hid (HBE.out rfl); clear HBE
    go_wp2_with (first | (refine wpList_loadB HBX3.out (by rfl) 39 _ (by rfl) (by rfl) _ Try.underlying39 rfl (by rw [hvl]; kernel_rfl) ?_))
    obtain ⟨r, hr⟩ : ∃ r, putRp x = r := ⟨_, rfl⟩
    have hput := rPut9_any (goesRp.after HP.out HB3.out) (small_B HRB.out HL.out) (small_Q HL.out) r hr
    rw [← HVS.out] at hput
    have HR := Lib.hid hr; clear hr
    refine hput.mono ?_
    clear hput
    rintro e w4 ⟨A4, n4, c4, rfl, hs4, hb4⟩
    have HS4 := Lib.hid hs4; clear hs4
    have HB4 := Lib.hid (HB3.out.trans (hb4.mono HB3.out.size))
    have HBX4 := Lib.hid (goesBx.after HBX3.out hb4)
    clear hb4 HBX3
    go_wp2_with (first | (refine wpList_loadB HBX4.out (by rfl) 39 _ (by rfl) (by rfl) _ Try.underlying39 rfl (by rw [hvl]; kernel_rfl) ?_))
    have hof := replyOf_any (goesRp.after HP.out HB4.out) (rpL_small HRB.out HL.out)
    rw [← HVS.out] at hof
    refine hof.mono ?_
    clear hof
    rintro e w5 ⟨t5, rfl, hrf, hb5⟩
    have HB5 := Lib.hid (HB4.out.trans (hb5.mono HB4.out.size))
    have HS5 := Lib.hid (HS4.out.after hb5)
    have HRF := Lib.hid hrf
    clear hrf hb5 HS4
    go_wp2_with fail
    refine (rPut9ref_any HRF.out (rfB_small HRB.out HL.out) (wl_small' HRB.out HL.out) r (by rw [putRf_eq, HR.out]) (fun h => putRp_ne (HR.out.trans h) rfl)).mono ?_
    rintro e w6 ⟨A6, n6, c6, rfl, hs6, hb6⟩
    have HB6 := Lib.hid (HB5.out.trans (hb6.mono HB5.out.size))
    have cv1 := conv_sl (HS5.out.after hb6)
    have cv2 := conv_sl hs6
    clear hs6 hb6
    go_wp2_with fail
    go_ret
    exact ⟨by simp, HB6.out⟩
end Go.Proofs.Sb

/- The walk over signalboxlaw09.ReplySupports: true at every input, and nothing that was there has turned. Conditions: lengths up to 2^20. (written by gen_lawys.py) -/
namespace Sb
open Go.Proofs.Sb
theorem werr_err (e : Int) : werr (.error e) = e := rfl
def supQ (l : List (B × List B)) : Rp := { Rp.of 6 with support := l }
def autQ (x : B) : Rp := { Rp.of 3 with text := x }
def tokQ (v : Val) : Rp := { Rp.of 14 with token := v }
theorem rpA_of {op : Nat} (h : op < 256) : RpA 140737488355328 (Rp.of op) :=
  ⟨h, (rpB_of h).flt, Nat.zero_le _, strOk_nil, strOk_nil, (rpB_of h).port, Nat.zero_le _, chgB_none, (rpB_of h).rkind, chgB_none, Nat.zero_le _, Nat.zero_le _, Nat.zero_le _, Nat.zero_le _, Nat.zero_le _, Nat.zero_le _, Nat.zero_le _, Nat.zero_le _, fun y hy => by cases hy⟩
theorem supA {l : List (B × List B)} (hn : l.length ≤ 140737488355328) (hl : ∀ y ∈ l, y.2.length ≤ 140737488355328) : RpA 140737488355328 (supQ l) := { rpA_of (op := 6) (by decide) with nsu := hn, sup := hl }
theorem autA {x : B} (h : x.length ≤ 1048576) : RpA 140737488355328 (autQ x) := { rpA_of (op := 3) (by decide) with text := Nat.le_trans h (by decide) }
theorem tokA {v : Val} (h : v.bytes.length ≤ 1048576) : RpA 140737488355328 (tokQ v) := { rpA_of (op := 14) (by decide) with token := Nat.le_trans h (by decide) }
theorem autS (x : B) : RpS (autQ x) := ⟨(by decide : (0 : Nat) < 100), (by decide : (0 : Nat) < 1000)⟩
theorem tokS (v : Val) : RpS (tokQ v) := ⟨(by decide : (0 : Nat) < 100), (by decide : (0 : Nat) < 1000)⟩
theorem aut_put {x : B} (h : x.length ≤ 1000) : ∃ b, putRp (autQ x) = .ok b := by
  refine ⟨enc 2 x.length ++ x, ?_⟩
  show text x = _
  unfold text
  rw [if_neg (by omega)]
theorem tok_put {v : Val} (h0 : 0 ≤ v.kind) (h2 : v.kind ≤ 2) : ∃ b, putRp (tokQ v) = .ok b := by
  show ∃ b, value v = .ok b
  unfold value
  by_cases k0 : v.kind = 0
  · rw [if_pos k0]; exact ⟨_, rfl⟩
  by_cases k1 : v.kind = 1
  · rw [if_neg k0, if_pos k1]; exact ⟨_, rfl⟩
  rw [if_neg k0, if_neg k1, if_pos (by omega)]; exact ⟨_, rfl⟩
theorem norm_kind (v : Val) : v.norm.kind = v.kind := by unfold Val.norm; split <;> rfl
end Sb
namespace Go.Proofs.Sb
open Go.RowKit _root_.Sb
theorem goesMul {l : List (B × List B)} {A : Option Addr} {n c : Nat} : Goes fun S w => Arr 2 (multiP S w) S w A n c l :=
  ⟨fun h hs hk => (goesArr.keep h hs hk).imp fun x _ v hp => hp.imp fun _ _ _ _ h => goesArr.keep h hs hk, fun h hS => (goesArr.mono h hS).imp fun x _ v hp => hp.imp fun _ _ _ _ h => goesArr.mono h hS⟩
def supT (A : Option Addr) (n c : Nat) : Trs := { Trs.z with su := ⟨A, n, c⟩ }
def tokT (A : Option Addr) (n c : Nat) : Trs := { Trs.z with tk := ⟨A, n, c⟩ }
set_option maxHeartbeats 2000000 in
set_option maxRecDepth 100000 in
theorem replySupports_any {S S2 : Nat → Prop} {A At : Option Addr} {n c nt ct : Nat} {l : List (B × List B)} {tx : B} {v : Val} {w : World} (hs : Arr 2 (multiP S w) S w A n c l) (hn : n ≤ 140737488355328) (hl : ∀ y ∈ l, y.2.length ≤ 140737488355328) (htx0 : strOk tx) (hv : Sl S2 w At nt ct v.bytes) (htl0 : v.bytes.length ≤ 140737488355328) :
    Calls Try.prog 7 #[.slice A n c, .string (str tx), .agg #[.int .i64 v.kind, .slice At nt ct]] w fun e w' => e = .returned (.bool true) ∧ Below w.heap.size w w' := by
  have hln := hs.len
  have hcp := hs.cap
  have hcm := hs.capMax
  have htx9 : tx.length ≤ 9223372036854775807 := htx0
  clear htx0
  have HLN := Lib.hid hln; clear hln
  have HP := Lib.hid ((goesRp (x := supQ l) (t := supT A n c)).mono (S' := fun b => S b ∧ b < w.heap.size) (⟨Arr.nil, Sl.nil, hs, Sl.nil, Sl.nil, Arr.nil, Arr.nil, Sl.nil, Sl.nil⟩ : RpR S w (supQ l) (supT A n c)) fun b h1 h2 => ⟨h1, h2⟩); clear hs
  have HV := Lib.hid hv.lt
  have hlt := hv.len
  have htl : nt ≤ 140737488355328 := by omega
  clear htl0
  clear hv
  have HLT := Lib.hid hlt; clear hlt
  have HLL := Lib.hid hl; clear hl
  obtain ⟨kv, hkv⟩ : ∃ k, v.kind = k := ⟨_, rfl⟩
  rw [hkv]
  have HKV := Lib.hid hkv; clear hkv
  go_enter Try.func7, Try.ntmps7
  go_wp2_with fail
  obtain ⟨w1, hw1⟩ : ∃ w1, w1 = w.alloc (.cells #[.int .i64 kv, .slice At nt ct] 31) := ⟨_, rfl⟩
  rw [← hw1]
  have hB1 : Below w.heap.size w w1 := by rw [hw1]; exact (Below.refl _ _).alloc (Nat.le_refl _) _
  have hbx : Bx (fun b => b = w.heap.size) w1 w.heap.size [.int .i64 kv, .slice At nt ct] := by
    rw [hw1]; exact Bx.alloc w #[.int .i64 kv, .slice At nt ct] 31 (S := fun b => b = w.heap.size) rfl rfl
  have HT1 := Lib.hid hbx; clear hbx hw1
  have HB1 := Lib.hid hB1; clear hB1
  refine (awake9 _).mono ?_
  rintro e w2 ⟨rfl, hb2⟩
  have HB2 := Lib.hid (HB1.out.trans (hb2.mono HB1.out.size))
  have HT2 := Lib.hid (goesBx.after HT1.out hb2)
  clear hb2 HT1
  go_upto_region 5 with (first | (refine wpList_built (by rfl) 39 _ (by rfl) (rpT (supQ l) (supT A n c)).toArray (by kernel_rfl) ?_) | (refine wpList_store_newB (by rfl) 39 _ _ (by rfl) _ _ _ _ (by rfl) (by rfl) (by simp) (by rfl) (by kernel_rfl) (by rfl) (by rfl) ?_; intro w3 hb3 hz3 hx3; have HB3 := Lib.hid (HB2.out.trans (hb3.mono HB2.out.size)); have HT3 := Lib.hid (goesBx.after HT2.out hb3); have HX3 : Hid (Bx (fun b => b = w2.heap.size) w3 w2.heap.size (rpT (supQ l) (supT A n c))) := Lib.hid hx3; clear hb3 hz3 hx3 HT2))
  go_wp2_with (first | (refine wpList_loadB HX3.out (by rfl) 39 _ (by rfl) (by rfl) _ Try.underlying39 rfl (by kernel_rfl) ?_))
  refine (slight9_any (x := supQ l) (t := supT A n c) (goesRp.after HP.out HB3.out) (supA (by have := HLN.out; omega) HLL.out)).mono ?_
  rintro e w4 ⟨β, rfl, hβ, hb4⟩
  have HB4 := Lib.hid (HB3.out.trans (hb4.mono HB3.out.size))
  have HT4 := Lib.hid (goesBx.after HT3.out hb4)
  have HX4 := Lib.hid (goesBx.after HX3.out hb4)
  have HSA : Hid (RpA 140737488355328 (supQ l)) := Lib.hid (supA (by have := HLN.out; omega) HLL.out)
  have t0 := HT4.out.c 0 _ rfl
  have t1 := HT4.out.c 1 _ rfl
  have tl := HT4.out.lt
  clear hb4 HT3 HX3
  have HBE := Lib.hid hβ; clear hβ
  cases β with
  | false =>
    go_wp2_with fail
    go_ret
    exact ⟨rfl, HB4.out⟩
  | true =>
    have HL := Lib.hid (HBE.out rfl); clear HBE
    by_cases h1 : 1000 < tx.length
    · go_wp2_with fail
      go_ret
      exact ⟨rfl, HB4.out⟩
    by_cases h2 : 1000 < nt
    · go_wp2_with fail
      go_ret
      exact ⟨rfl, HB4.out⟩
    have htx : tx.length ≤ 1048576 := by omega
    have hvl : v.bytes.length ≤ 1048576 := by have := HLT.out; omega
    by_cases h3 : kv < 0
    · go_wp2_with fail
      go_ret
      exact ⟨rfl, HB4.out⟩
    by_cases h4 : 2 < kv
    · go_wp2_with fail
      go_ret
      exact ⟨rfl, HB4.out⟩
    go_upto_region 8 with fail
    clear t0 t1
    obtain ⟨r, hr⟩ : ∃ r, putRp (supQ l) = r := ⟨_, rfl⟩
    have HR := Lib.hid hr; clear hr
    go_wp2_with (first | (refine wpList_loadB HX4.out (by rfl) 39 _ (by rfl) (by rfl) _ Try.underlying39 rfl (by kernel_rfl) ?_))
    refine (rPut9_any (x := supQ l) (t := supT A n c) (goesRp.after HP.out HB4.out) (small_B HSA.out HL.out) (small_Q HL.out) r HR.out).mono ?_
    rintro e w5 ⟨A5, n5, c5, rfl, hs5, hb5⟩
    have HS5 := Lib.hid hs5
    have HB5 := Lib.hid (HB4.out.trans (hb5.mono HB4.out.size))
    have HT5 := Lib.hid (goesBx.after HT4.out hb5)
    have hl5 := hs5.len
    clear hs5 hb5 HX4
    cases r with
    | error e =>
      obtain rfl : n5 = 0 := hl5
      have hne : (e != 0) = true := by simpa using putRp_ne HR.out
      rw [werr_err]
      go_wp2_with fail
      refine (rGet9_any HS5.out (by decide) _ rfl).mono ?_
      rintro e w6 ⟨t6, rfl, hq6, hb6⟩
      have HB6 := Lib.hid (HB5.out.trans (hb6.mono HB5.out.size))
      clear hq6 hb6
      obtain ⟨vs6, hvs6⟩ : ∃ vs6, vs6 = rpT (rpOf (getRp 6 (wval (.error e)))) t6 := ⟨_, rfl⟩
      have hvl6 : vs6.length = 34 := by rw [hvs6]; rfl
      have hone6 : vs6.all (·.oneCell') = true := by rw [hvs6]; rfl
      rw [← hvs6]
      clear hvs6
      go_wp2_with (first | (refine wpList_store_newB (by rfl) 39 _ _ (by rfl) _ _ _ _ (by rfl) (by rfl) (by simp) (by rfl) (by rw [hvl6]; kernel_rfl) (by rw [hvl6]; rfl) hone6 ?_; intro w7 hb7 hz7 hx7; clear hz7 hx7; have HB7 := Lib.hid (HB6.out.trans (hb7.mono HB6.out.size)); clear hb7))
      go_ret
      exact ⟨rfl, HB7.out⟩
    | ok cb =>
      rw [werr_ok]
      have hle := small_len HSA.out HL.out (Nat.zero_le _)
      rw [HR.out] at hle
      have hle2 : cb.length ≤ 2000000000 := hle
      have HS5' : Hid (Sl (fun b => w4.heap.size ≤ b) w5 A5 n5 c5 cb) := HS5
      have hl5' : n5 = cb.length := hl5
      have hl5'' : n5 ≤ 140737488355328 := by omega
      clear hle hle2 HS5 hl5 hl5'
      obtain ⟨y, hy, hbp⟩ := rp_back (small_B HSA.out HL.out) (by unfold val31; show (0 : Nat) < _; decide) HR.out
      have hys : y.support = l := hbp.sup rfl
      have HY := Lib.hid hy; clear hy hbp
      go_wp2_with fail
      refine (rGet9_any (op := 6) HS5'.out hl5'' (.ok y) HY.out).mono ?_
      rintro e w6 ⟨t6, rfl, hq6, hb6⟩
      have HB6 := Lib.hid (HB5.out.trans (hb6.mono HB5.out.size))
      have HT6 := Lib.hid (goesBx.after HT5.out hb6)
      have hsu : Arr 2 (multiP (fun b => b < w6.heap.size) w6) (fun b => b < w6.heap.size) w6 t6.su.a t6.su.n t6.su.c l := hys ▸ (goesRp.mono (S' := fun b => b < w6.heap.size) hq6 fun b _ h => h).su
      rw [show rpOf (.ok y) = y from rfl, show erP (.ok y) = 0 from rfl]
      obtain ⟨vs6, hvs6⟩ : ∃ vs6, vs6 = rpT y t6 := ⟨_, rfl⟩
      have hvl6 : vs6.length = 34 := by rw [hvs6]; rfl
      have hone6 : vs6.all (·.oneCell') = true := by rw [hvs6]; rfl
      have hv14 : vs6[14]? = some (.slice t6.su.a t6.su.n t6.su.c) := by rw [hvs6]; rfl
      rw [← hvs6]
      clear hvs6 hys
      obtain ⟨fa6, fi6, ⟨A6, n6, c6⟩, tk6, ad6, sc6, cg6, id6, rs6⟩ := t6
      obtain rfl : n6 = n := by have := hsu.len; have := HLN.out; dsimp only at *; omega
      have hcap6 : n6 ≤ c6 := hsu.cap
      have hcm6 : c6 ≤ maxLen := hsu.capMax
      dsimp only at hv14 hsu
      have HSU := Lib.hid hsu
      clear hq6 hb6 hsu HS5' hl5'' HT5
      go_upto_region 14 with (first | (refine wpList_store_newB (by rfl) 39 _ _ (by rfl) _ _ _ _ (by rfl) (by rfl) (by simp) (by rfl) (by rw [hvl6]; kernel_rfl) (by rw [hvl6]; rfl) hone6 ?_; intro w7 hb7 hz7 hx7; have HB7 := Lib.hid (HB6.out.trans (hb7.mono HB6.out.size)); have HT7 := Lib.hid (goesBx.after HT6.out hb7); have y14 := hx7.c 14 _ hv14; have hyl : w6.heap.size < w7.heap.size := (by omega); have HSU7 : Hid (Arr 2 (multiP (fun b => b < w6.heap.size) w7) (fun b => b < w6.heap.size) w7 A6 n6 c6 l) := Lib.hid ((goesMul (l := l) (A := A6) (n := n6) (c := c6)).after HSU.out hb7); clear hb7 hz7 hx7 HB6 HT6 HSU))
      obtain ⟨Y, hY⟩ : ∃ Y, Y = w6.heap.size := ⟨_, rfl⟩
      rw [← hY] at y14 hyl HSU7 ⊢
      clear hY
      go_wp2_with fail
      go_loopw [14] (fun i wr => ∃ k : Nat, k ≤ n6 ∧ i = .int .i64 (k : Nat) ∧ Hid (Below w7.heap.size w7 wr)) (fun i _ => n6 - (intOf i).toNat)
      case atStart => exact ⟨0, by omega, rfl, Lib.hid (Below.refl _ _)⟩
      case round =>
        obtain ⟨k, hk, rfl, HBr⟩ := hrel
        have HBw := Lib.hid (HB7.out.trans (HBr.out.mono HB7.out.size))
        have hsr := HBr.out.size
        replace y14 := kcell HBr.out y14
        by_cases hlt : k < n6
        · obtain ⟨x, hx⟩ : ∃ x, l[k]? = some x := ⟨_, List.getElem?_eq_getElem (by have := HLN.out; omega)⟩
          obtain ⟨b1, o1, rfl, hS1, hz1, HC1⟩ := (goesRp.after HP.out HBw.out).su.at (by decide) (by show 0 < n6; omega)
          obtain ⟨v1, _, hp1, hv1⟩ := HC1 k x hx
          obtain ⟨A7, n7, c7, rfl, hxl, hvl1⟩ := hp1
          have e0 := hv1 0 _ rfl
          have e1 := hv1 1 _ rfl
          obtain ⟨b2, o2, rfl, hS2, hz2, HC2⟩ := ((goesMul (l := l)).after HSU7.out HBr.out).at (by decide) (by omega)
          obtain ⟨v2, _, hp2, hv2⟩ := HC2 k x hx
          obtain ⟨A8, n8, c8, rfl, _, hvl2⟩ := hp2
          have z0 := hv2 0 _ rfl
          have z1 := hv2 1 _ rfl
          simp only [Nat.add_zero] at e0 z0
          have H7 := Lib.hid hvl1
          have H8 := Lib.hid hvl2
          obtain rfl : n7 = n8 := by have := hvl1.len; have := hvl2.len; omega
          have hx7 : n7 ≤ 140737488355328 := by have := hvl1.len; have := HLL.out x (List.mem_of_getElem? hx); omega
          have hc7 := hvl1.cap
          have hc8 := hvl2.cap
          have hm7 := hvl1.capMax
          have hm8 := hvl2.capMax
          have HXL := Lib.hid hvl1.len
          clear hv1 hv2 HC1 HC2 hvl1 hvl2 hx hz1 hz2 hS1 hS2
          have q1 : (k : Int) < (n6 : Int) := by omega
          go_wp2_with fail
          go_quiet (fail)
          obtain ⟨w8, hw8⟩ : ∃ w8, w8 = wr.drewN nq := ⟨_, rfl⟩
          have hdr : Below wr.heap.size wr w8 := by rw [hw8]; exact below_drewN (Below.refl _ _) _
          rw [← hw8]
          have HB8 := Lib.hid (HBr.out.trans (hdr.mono HBr.out.size))
          have H7' := Lib.hid (goesArr.after H7.out hdr)
          have H8' := Lib.hid (goesArr.after H8.out hdr)
          replace y14 := kcell hdr y14
          replace e1 := kcell hdr e1
          replace z1 := kcell hdr z1
          clear hdr hw8 e0 z0 H7 H8
          go_wp2_with fail
          go_loopw [15] (fun i wq => ∃ r : Nat, r ≤ n7 ∧ i = .int .i64 (r : Nat) ∧ Hid (Below w8.heap.size w8 wq)) (fun i _ => n7 - (intOf i).toNat)
          case atStart => exact ⟨0, by omega, rfl, Lib.hid (Below.refl _ _)⟩
          case round =>
            obtain ⟨r, hr, rfl, HBq⟩ := hrel
            obtain ⟨wq, hwq⟩ : ∃ wq, wq = wr := ⟨_, rfl⟩
            subst hwq
            have HBq7 := Lib.hid (HB8.out.trans (HBq.out.mono HB8.out.size))
            replace y14 := kcell HBq.out y14
            replace e1 := kcell HBq.out e1
            replace z1 := kcell HBq.out z1
            by_cases hlr : r < n7
            · obtain ⟨s, hs⟩ : ∃ s, x.2[r]? = some s := ⟨_, List.getElem?_eq_getElem (by have := HXL.out; omega)⟩
              obtain ⟨b3, o3, rfl, hS3, hz3, HC3⟩ := (goesArr.after H7'.out HBq.out).at (by decide) (by omega)
              obtain ⟨v3, _, hp3, hv3⟩ := HC3 r s hs
              obtain ⟨rfl, hsl⟩ := hp3
              have k0 := hv3 0 _ rfl
              obtain ⟨b6, o6, rfl, hS6, hz6, HC6⟩ := (goesArr.after H8'.out HBq.out).at (by decide) (by omega)
              obtain ⟨v6, _, hp6, hv6⟩ := HC6 r s hs
              obtain ⟨rfl, _⟩ := hp6
              have j0 := hv6 0 _ rfl
              simp only [Nat.mul_one, Nat.add_zero] at k0 j0
              clear hv3 hv6 HC3 HC6 hs hS3 hS6 hz3 hz6
              have q3 : (r : Int) < (n7 : Int) := by omega
              go_wp2_with fail
              go_quiet (fail)
              clear k0 j0 q3
              obtain ⟨w9, hw9⟩ : ∃ w9, w9 = wq.drewN nq := ⟨_, rfl⟩
              have hdr : Below wq.heap.size wq w9 := by rw [hw9]; exact below_drewN (Below.refl _ _) _
              rw [← hw9]
              have HBd := Lib.hid (HBq.out.trans (hdr.mono HBq.out.size))
              clear hdr hw9
              go_wp2_with fail
              refine ⟨⟨r + 1, by omega, by go_num, HBd⟩, by simp [intOf]; omega⟩
            · obtain rfl : n7 = r := by omega
              go_wp2_with fail
              refine ⟨⟨k + 1, by omega, by go_num, HBq7⟩, by simp [intOf]; omega⟩
        · obtain rfl : k = n6 := by omega
          -- MARK
          obtain ⟨wo, hwo⟩ : ∃ wo, wo = wr := ⟨_, rfl⟩
          subst hwo
          have HTr := Lib.hid (goesBx.after HT7.out HBr.out)
          clear y14 hyl HSU7
          obtain ⟨c1b, hc1⟩ := aut_put (x := tx) (by omega)
          obtain ⟨y1, hy1, hbp1⟩ := rp_back (small_B (autA htx) (autS tx)) (by unfold val31; show (0 : Nat) < _; decide) hc1
          have hl1 := small_len (autA htx) (autS tx) (Nat.zero_le _)
          rw [hc1] at hl1
          have hl1' : c1b.length ≤ 2000000000 := hl1
          have ht1 : y1.text = tx := hbp1.text rfl
          have HC1 := Lib.hid hc1; have HY1 := Lib.hid hy1; have HT1' := Lib.hid ht1
          clear hc1 hy1 hbp1 hl1 ht1
          obtain ⟨c2b, hc2⟩ := tok_put (v := v) (by rw [HKV.out]; omega) (by rw [HKV.out]; omega)
          obtain ⟨y2, hy2, hbp2⟩ := rp_back (small_B (tokA hvl) (tokS v)) (by unfold val31; show v.bytes.length < _; omega) hc2
          have hl2 := small_len (tokA hvl) (tokS v) hvl
          rw [hc2] at hl2
          have hl2' : c2b.length ≤ 2000000000 := hl2
          have ht2 : y2.token = v.norm := hbp2.token (.inl rfl)
          have HC2 := Lib.hid hc2; have HY2 := Lib.hid hy2; have HT2' := Lib.hid ht2
          clear hc2 hy2 hbp2 hl2 ht2
          go_wp2_with (first | (refine wpList_built (by rfl) 39 _ (by rfl) (rpT (autQ tx) .z).toArray (by kernel_rfl) ?_))
          refine (rPut9_any (S := fun _ => False) (x := autQ tx) (t := .z) ⟨Arr.nil, Sl.nil, Arr.nil, Sl.nil, Sl.nil, Arr.nil, Arr.nil, Sl.nil, Sl.nil⟩ (small_B (autA htx) (autS tx)) (small_Q (autS tx)) (.ok c1b) HC1.out).mono ?_
          rintro e w10 ⟨A10, n10, c10, rfl, hs10, hb10⟩
          rw [werr_ok]
          have HB10 := Lib.hid (HBw.out.trans (hb10.mono HBw.out.size))
          have HT10 := Lib.hid (goesBx.after HTr.out hb10)
          have hl10 : n10 ≤ 140737488355328 := by have := hs10.len; rw [wval_ok] at this; omega
          have HS10 : Hid (Sl (fun b => wo.heap.size ≤ b) w10 A10 n10 c10 c1b) := Lib.hid hs10
          clear hs10 hb10 hl1' HTr
          go_wp2_with fail
          refine (rGet9_any (op := 3) HS10.out hl10 (.ok y1) HY1.out).mono ?_
          rintro e w11 ⟨t11, rfl, hq11, hb11⟩
          have HB11 := Lib.hid (HB10.out.trans (hb11.mono HB10.out.size))
          have HT11 := Lib.hid (goesBx.after HT10.out hb11)
          rw [show rpOf (.ok y1) = y1 from rfl, show erP (.ok y1) = 0 from rfl]
          obtain ⟨vs11, hvs11⟩ : ∃ vs11, vs11 = rpT y1 t11 := ⟨_, rfl⟩
          have hvl11 : vs11.length = 34 := by rw [hvs11]; rfl
          have hone11 : vs11.all (·.oneCell') = true := by rw [hvs11]; rfl
          have hv13 : vs11[13]? = some (.string (str tx)) := by rw [hvs11, ← HT1'.out]; rfl
          rw [← hvs11]
          clear hvs11 hq11 hb11 HS10 hl10 HT10
          go_upto_region 26 with (first | (refine wpList_store_newB (by rfl) 39 _ _ (by rfl) _ _ _ _ (by rfl) (by rfl) (by simp) (by rfl) (by rw [hvl11]; kernel_rfl) (by rw [hvl11]; rfl) hone11 ?_; intro w12 hb12 hz12 hx12; have HB12 := Lib.hid (HB11.out.trans (hb12.mono HB11.out.size)); have HT12 := Lib.hid (goesBx.after HT11.out hb12); have HX12 : Hid (Bx (fun b => b = w11.heap.size) w12 w11.heap.size vs11) := Lib.hid hx12; clear hb12 hz12 hx12 HT11))
          go_wp2_with (first | (refine wpList_loadB HT12.out (by rfl) 31 _ (by rfl) (by rfl) _ Try.underlying31 rfl (by kernel_rfl) ?_) | (refine wpList_built (by rfl) 39 _ (by rfl) (rpT (tokQ ⟨kv, v.bytes⟩) (tokT At nt ct)).toArray (by kernel_rfl) ?_))
          have hkeq : tokQ ⟨kv, v.bytes⟩ = tokQ v := by rw [← HKV.out]
          rw [hkeq]
          clear hkeq
          refine (rPut9_any (x := tokQ v) (t := tokT At nt ct) ⟨Arr.nil, Sl.nil, Arr.nil, HV.out.after HB12.out, Sl.nil, Arr.nil, Arr.nil, Sl.nil, Sl.nil⟩ (small_B (tokA hvl) (tokS v)) (small_Q (tokS v)) (.ok c2b) HC2.out).mono ?_
          rintro e w13 ⟨A13, n13, c13, rfl, hs13, hb13⟩
          rw [werr_ok]
          have HB13 := Lib.hid (HB12.out.trans (hb13.mono HB12.out.size))
          have HT13 := Lib.hid (goesBx.after HT12.out hb13)
          have HX13 := Lib.hid (goesBx.after HX12.out hb13)
          have hl13 : n13 ≤ 140737488355328 := by have := hs13.len; rw [wval_ok] at this; omega
          have HS13 : Hid (Sl (fun b => w12.heap.size ≤ b) w13 A13 n13 c13 c2b) := Lib.hid hs13
          clear hs13 hb13 hl2' HT12 HX12
          go_wp2_with fail
          refine (rGet9_any (op := 14) HS13.out hl13 (.ok y2) HY2.out).mono ?_
          rintro e w14 ⟨t14, rfl, hq14, hb14⟩
          have HB14 := Lib.hid (HB13.out.trans (hb14.mono HB13.out.size))
          have HT14 := Lib.hid (goesBx.after HT13.out hb14)
          have HX14 := Lib.hid (goesBx.after HX13.out hb14)
          have htk : Sl (fun b => b < w14.heap.size) w14 t14.tk.a t14.tk.n t14.tk.c v.norm.bytes := HT2'.out ▸ (goesRp.mono (S' := fun b => b < w14.heap.size) hq14 fun b _ h => h).tk
          rw [show rpOf (.ok y2) = y2 from rfl, show erP (.ok y2) = 0 from rfl]
          obtain ⟨vs14, hvs14⟩ : ∃ vs14, vs14 = rpT y2 t14 := ⟨_, rfl⟩
          have hvl14 : vs14.length = 34 := by rw [hvs14]; rfl
          have hone14 : vs14.all (·.oneCell') = true := by rw [hvs14]; rfl
          have hv15 : vs14[15]? = some (.int .i64 kv) := by rw [hvs14, ← HKV.out, ← norm_kind v, ← HT2'.out]; rfl
          have hv16 : vs14[16]? = some (.slice t14.tk.a t14.tk.n t14.tk.c) := by rw [hvs14]; rfl
          rw [← hvs14]
          obtain ⟨fa14, fi14, su14, ⟨A14, n14, c14⟩, ad14, sc14, cg14, id14, rs14⟩ := t14
          dsimp only at hv16 htk
          have HTK := Lib.hid htk
          clear hvs14 hq14 hb14 HS13 hl13 HT13 HX13 htk
          go_upto_region 28 with (first | (refine wpList_store_newB (by rfl) 39 _ _ (by rfl) _ _ _ _ (by rfl) (by rfl) (by simp) (by rfl) (by rw [hvl14]; kernel_rfl) (by rw [hvl14]; rfl) hone14 ?_; intro w15 hb15 hz15 hx15; have HB15 := Lib.hid (HB14.out.trans (hb15.mono HB14.out.size)); have HT15 := Lib.hid (goesBx.after HT14.out hb15); have HX15 := Lib.hid (goesBx.after HX14.out hb15); have HTK15 := Lib.hid (HTK.out.after hb15); have p15 := hx15.c 15 _ hv15; have p16 := hx15.c 16 _ hv16; clear hb15 hz15 hx15))
          have p13 := HX15.out.c 13 _ hv13
          have t0 := HT15.out.c 0 _ rfl
          have t1 := HT15.out.c 1 _ rfl
          have cvA := conv_sl HTK15.out
          have cvB := conv_sl (HV.out.after HB15.out)
          clear hv13 hv15 hv16 hvl11 hone11 hvl14 hone14
          by_cases h2k : kv = 2
          · rw [show v.norm = v by unfold Val.norm; rw [if_pos (by rw [HKV.out, h2k])]] at cvA
            have hk2 : (kv == 2) = true := by rw [h2k]; rfl
            have hk3 : (kv != 2) = false := by rw [h2k]; rfl
            clear h2k
            go_wp2_with fail
            go_ret
            exact ⟨by simp, HB15.out⟩
          · have hk2 : (kv == 2) = false := by simpa using h2k
            have hk3 : (kv != 2) = true := by simpa using h2k
            clear h2k cvA cvB
            go_wp2_with fail
            go_ret
            exact ⟨by simp, HB15.out⟩
end Go.Proofs.Sb
