/- The walk over signalboxlaw09.ReplyGets: true at every input, and nothing that was there has turned. Conditions: none. -/
import Derived.Test.YtfeeeighafflnaaAwake9
import Derived.Test.YtfeeeighafflnaaRyo
import Derived.Test.YtfeeeighafflnaaRyj
import Derived.Test.YtfeeeighafflnaaRym
set_option linter.unusedVariables false
set_option linter.unusedSimpArgs false
namespace Sb
open Go.Proofs.Sb
section
variable {L : Nat}
theorem gbTextsN : Gb L getTexts (fun l => l.length ≤ 1000000) := (gbL gbText).imp fun l h => by have := h.2; omega
theorem gbMultiN : Gb L multiR (fun y => y.2.length ≤ 1000000) := by
  rw [show multiR = bothR getText getTexts from rfl, eqBoth]
  exact gbText.bind fun _ _ => gbTextsN.bind fun _ h => .pure h
theorem gbTailN (t : B) : Gb L (tailR t) (fun p => p.2.length ≤ 1000000) :=
  .ite (gbText.bind fun n hn => gbTextsN.bind fun a ha => .pure ha) (.ite (gbText.bind fun n hn => .pure (Nat.zero_le _)) (.pure (Nat.zero_le _)))
theorem gbChgN : Gb L chgR (fun c => c.args.length ≤ 1000000) :=
  (gbWord _).bind fun a ha => (gbWord _).bind fun t ht => gbText.bind fun s hs => (gbTailN t).bind fun p hp => .pure hp
theorem gbFltTN (c : Nat) (t : B) : Gb L (fltTR c t) (fun f => f.args.length ≤ 1000000) := by
  have hz : ([] : List B).length ≤ 1000000 := Nat.zero_le _
  exact .ite (gbCons.bind fun l hl => gbNum.bind fun n hn => gbNum.bind fun r hr => .pure hz)
    (.ite (gbCons.bind fun l hl => gbNum.bind fun r hr => gbNum.bind fun n hn => gbText.bind fun w hw => .pure hz)
    (.ite (gbCons.bind fun l hl => gbNum.bind fun r hr => gbNum.bind fun n hn => (gbN 1).bind fun d hd => .pure hz)
    (.ite (gbCons.bind fun l hl => gbNum.bind fun r hr => gbNum.bind fun n hn => gbNum.bind fun f hf => (gbN 1).bind fun d hd => .pure hz)
    (.ite (gbCons.bind fun l hl => gbNum.bind fun r hr => gbNum.bind fun n hn => gbNum.bind fun f hf => gbText.bind fun w hw => .pure hz)
    (.ite (gbText.bind fun s hs => gbText.bind fun n hn => gbTextsN.bind fun a ha => .pure ha)
    (.ite (gbText.bind fun s hs => gbText.bind fun n hn => .pure hz)
    (.ite (gbText.bind fun i hi => .pure hz) (.pure hz))))))))
theorem gbFltN : Gb L fltR (fun f => f.args.length ≤ 1000000) := (gbN 4).bind fun c _ => gbText.bind fun t _ => gbFltTN c t
theorem gbNteN : Gb L nteR (fun n => n.schema.args.length ≤ 1000000) :=
  (gbWord _).bind fun k _ => .ite (gbChgN.bind fun c hc => .pure hc) ((gbWord _).bind fun w _ => gbInet.bind fun a _ => .pure (Nat.zero_le _))
theorem rpL_of (op : Nat) : RpL (Rp.of op) := ⟨Nat.zero_le _, Nat.zero_le _, Nat.zero_le _, Nat.zero_le _, fun y hy => by cases hy⟩
theorem gbResTN (k : Nat) : Gb L (resTR k) RpL := by
  have z := rpL_of 8
  have e : resTR k = fun b => if k = 1 then .ok ({ Rp.of 8 with kind := k }, b) else if k = 3 then bindR (getText b) fun s b => .ok ({ Rp.of 8 with kind := k, text := s }, b) else if k = 5 then bindR (chgR b) fun c b => .ok ({ Rp.of 8 with kind := k, change := c }, b) else if k = 4 then bindR (getText b) fun i b => bindR (allR b) fun r b => .ok ({ Rp.of 8 with kind := k, ident := i, rest := r }, b) else if k = 2 then bindR (allR b) fun r b => .ok ({ Rp.of 8 with kind := k, rest := r }, b) else .error 11 := rfl
  have ga : Gb L allR (fun _ => True) := fun b x r hb h => by obtain ⟨rfl, rfl⟩ := pureI h; exact ⟨trivial, Nat.zero_le _⟩
  rw [e]
  exact .ite (.pure { z with }) (.ite (gbText.bind fun s hs => .pure { z with }) (.ite (gbChgN.bind fun c hc => .pure { z with cg := hc })
    (.ite (gbText.bind fun i hi => ga.bind fun r hr => .pure { z with }) (.ite (ga.bind fun r hr => .pure { z with }) (.err _)))))
theorem gbRpN (op : Nat) : Gb L (partsRp op) RpL := by
  have z := rpL_of op
  exact .ite (gbFltN.bind fun f hf => .pure { z with fa := hf }) (.ite (.pure z) (.ite (gbText.bind fun s hs => .pure { z with })
    (.ite ((gbL gbMultiN).bind fun l hl => .pure { z with su := (by have := hl.2; show l.length ≤ _; omega), vals := hl.1 }) (.ite ((gbN 4).bind fun k hk => gbResTN k) (.ite (gbNteN.bind fun n hn => .pure { z with sc := hn }) (.ite (gbValue.bind fun v hv => .pure { z with }) (.err _)))))))
end
theorem rpOf_rpL {op : Nat} {b : B} {r : Except Int Rp} (h : getRp op b = r) : RpL (rpOf r) := by
  cases r with
  | error e => exact rpL_of 0
  | ok x => exact (gbRpN (L := b.length) op _ _ _ (Nat.le_refl _) (getRp_parts h)).1
theorem emap_val (r : Except Int Rp) : rfX (emap r) = rfOf (rpOf r) := by cases r <;> rfl
theorem emap_err (r : Except Int Rp) : erX (emap r) = erP r := by cases r <;> rfl
end Sb
namespace Go.Proofs.Sb
open Go.RowKit _root_.Sb
/-- a box read as a whole in a region that draws its order -/
theorem step_loadW {P : Program} {ops : Array Oper} {o : Oper} {a : Act} {w : World} {Q : Exit → Act → World → Prop} {K : Act → World → Prop} {E : Prop} {S : Nat → Prop} {X : Nat} {vs : List Value} (hB : Bx S w X vs) (hw : Region.wanted o (yielded ops a.tmps) = true) (ty : TypeId) (x : Operand) (ho : o.op = .load ty x) (hx : a.eval x = .pointer (some ⟨X, 0, none⟩)) (d : TypeDesc)
    (hu : P.underlying ty = some d) (hd : d.isRow = true) (hi : (P.info? ty).map (·.size) = some vs.length)
    (h : K (a.put o.dst (.agg vs.toArray)) w) : if Region.wanted o (yielded ops a.tmps) = true then Oper.wp P o a w K Q else E := by
  rw [if_pos hw]
  exact wp_load_mid ty x ho X 0 hx vs d hB.range hu hd hi h
set_option maxHeartbeats 8000000 in
set_option maxRecDepth 100000 in
theorem replyGets_any {S : Nat → Prop} {A : Option Addr} {n c op : Nat} {bs : B} {w : World} (hs : Sl S w A n c bs) :
    Calls Try.prog 3 #[.int .u8 (op : Int), .slice A n c] w fun e w' => e = .returned (.bool true) ∧ Below w.heap.size w w' := by
  have hcp := hs.cap
  have hcm := hs.capMax
  have HS := Lib.hid hs; clear hs
  obtain ⟨r, hr⟩ : ∃ r, getRp op bs = r := ⟨_, rfl⟩
  have HR := Lib.hid hr; clear hr
  obtain ⟨q, hq⟩ : ∃ q, q = rpOf r := ⟨_, rfl⟩
  have HQL : Hid (RpL q) := Lib.hid (hq ▸ rpOf_rpL HR.out)
  have HQE := Lib.hid hq; clear hq
  obtain ⟨er, her⟩ : ∃ er, er = erP r := ⟨_, rfl⟩
  have HER := Lib.hid her; clear her
  go_enter Try.func3, Try.ntmps3
  go_wp2_with fail
  refine (awake9 _).mono ?_
  rintro e w1 ⟨rfl, hb1⟩
  have HB1 := Lib.hid hb1; clear hb1
  by_cases hbig : 2000 < n
  · go_wp2_with fail
    go_ret
    exact ⟨rfl, HB1.out⟩
  · go_wp2_with fail
    refine (rGet9_any (op := op) (HS.out.after HB1.out) (by omega) r HR.out).mono ?_
    rintro e w2 ⟨t, rfl, hq2, hb2⟩
    rw [← HQE.out] at hq2
    rw [← HQE.out, ← HER.out]
    have HB2 := Lib.hid (HB1.out.trans (hb2.mono HB1.out.size))
    have HQ2 := Lib.hid hq2
    clear hq2 hb2
    obtain ⟨vs, hvs⟩ : ∃ vs, vs = rpT q t := ⟨_, rfl⟩
    have hvl := Lib.hid (show vs.length = 34 by rw [hvs]; rfl)
    have HV1 : Hid (vs.all (·.oneCell') = true) := Lib.hid (by rw [hvs]; rfl)
    rw [← hvs]
    have HVS := Lib.hid hvs; clear hvs
    go_upto_region 7 with (first | (refine wpList_store_newB (g := w2.heap.size) (by rfl) 39 (.tmp 6) (.tmp 20) (by rfl) w2 39 _ vs.toArray (by rfl) ?g2 ?g3 ?g4 ?g5 ?g6 ?g7 ?g8; ((case g2 => rfl); (case g3 => rfl); (case g4 => rfl); (case g5 => (show _ = some vs.length; rw [hvl.out]; kernel_rfl)); (case g6 => (show _ = vs.length; rw [hvl.out]; rfl)); (case g7 => exact HV1.out); intro w3 hb3 hz3 hx3; have HX3 : Hid (Bx (fun b => b = w2.heap.size) w3 w2.heap.size vs) := Lib.hid hx3; have HB3 := Lib.hid (HB2.out.trans (hb3.mono HB2.out.size)); have HQ3 := Lib.hid (goesRp.after HQ2.out hb3); clear hb3 hz3 hx3)))
    have hz3 : w2.heap.size < w3.heap.size := HX3.out.lt
    go_wp2_with fail
    refine (rGet9ref_any (op := op) (HS.out.after HB3.out) (by omega) (emap r) (by rw [getRf_eq, HR.out])).mono ?_
    rintro e w4 ⟨t4, rfl, hq4, hb4⟩
    rw [emap_val, ← HQE.out] at hq4
    rw [emap_val, emap_err, ← HQE.out, ← HER.out]
    have HB4 := Lib.hid (HB3.out.trans (hb4.mono HB3.out.size))
    have HQ4 := Lib.hid (goesRp.after HQ3.out hb4)
    have HX4 := Lib.hid (goesBx.after HX3.out hb4)
    have HF4 := Lib.hid hq4
    clear hq4 hb4 HX3 HQ3
    obtain ⟨us, hus⟩ : ∃ us, us = rfV (rfOf q) t4 := ⟨_, rfl⟩
    have hul := Lib.hid (show us.length = 27 by rw [hus]; rfl)
    have HU1 : Hid (us.all (·.oneCell') = true) := Lib.hid (by rw [hus]; rfl)
    rw [← hus]
    have HUS := Lib.hid hus; clear hus
    go_upto_region 8 with (first | (refine wpList_store_newB (g := w4.heap.size) (by rfl) 51 (.tmp 8) (.tmp 26) (by rfl) w4 51 _ us.toArray (by rfl) ?k2 ?k3 ?k4 ?k5 ?k6 ?k7 ?k8; ((case k2 => rfl); (case k3 => rfl); (case k4 => rfl); (case k5 => (show _ = some us.length; rw [hul.out]; kernel_rfl)); (case k6 => (show _ = us.length; rw [hul.out]; rfl)); (case k7 => exact HU1.out); intro w5 hb5 hz5 hx5; have HX5 : Hid (Bx (fun b => b = w4.heap.size) w5 w4.heap.size us) := Lib.hid hx5; have HB5 := Lib.hid (HB4.out.trans (hb5.mono HB4.out.size)); have HQ5 := Lib.hid (goesRp.after HQ4.out hb5); have HX6 := Lib.hid (goesBx.after HX4.out hb5); have HF5 := Lib.hid (goesRf.after HF4.out hb5); clear hb5 hz5 hx5)))
    have hz5 := HB5.out.size
    have hz6 := HX6.out.lt
    have hz7 := HX5.out.lt
    have hdr : Below w5.heap.size w5 w5.drew := (Below.refl _ _).drew
    have HXA := Lib.hid (goesBx.after HX6.out hdr)
    have HXB := Lib.hid (goesBx.after HX5.out hdr)
    have HQD := Lib.hid (goesRp.after HQ5.out hdr)
    have HFD := Lib.hid (goesRf.after HF5.out hdr)
    clear hdr
    refine reg_start (by kernel_rfl) ?_
    (refine reg_take 0 (v := ?_) (by rfl) (by kernel_rfl) (by kernel_rfl) (by kernel_rfl) (by exact fun _ _ _ h => h) (by rfl) ?_ ?_; rotate_left; focus (intro w hSw; go_simp; try with_reducible rfl))
    simp only [Act.put, List.setIfInBounds_toArray, List.set_cons_zero, List.set_cons_succ]
    (refine reg_take 1 (v := ?_) (by rfl) (by kernel_rfl) (by kernel_rfl) (by kernel_rfl) (by exact fun _ _ _ h => h) (by rfl) ?_ ?_; rotate_left; focus (intro w hSw; go_simp; try with_reducible rfl))
    simp only [Act.put, List.setIfInBounds_toArray, List.set_cons_zero, List.set_cons_succ]
    (refine reg_take 2 (v := ?_) (by rfl) (by kernel_rfl) (by kernel_rfl) (by kernel_rfl) (by exact fun _ _ _ h => h) (by rfl) ?_ ?_; rotate_left; focus (intro w hSw; go_simp; try with_reducible rfl))
    simp only [Act.put, List.setIfInBounds_toArray, List.set_cons_zero, List.set_cons_succ]
    (refine reg_take 3 (v := ?_) (by rfl) (by kernel_rfl) (by kernel_rfl) (by kernel_rfl) (by exact fun _ _ _ h => h) (by rfl) ?_ ?_; rotate_left; focus (intro w hSw; go_simp; try with_reducible rfl))
    simp only [Act.put, List.setIfInBounds_toArray, List.set_cons_zero, List.set_cons_succ]
    refine reg_two 4 6 (by kernel_rfl) (by rfl) (by rfl) (fun K hK => ?_) (fun K hK => ?_)
    focus
      refine step_loadW HXA.out (by rfl) 39 _ (by rfl) (by rfl) _ Try.underlying39 rfl (by rw [hvl.out]; kernel_rfl) ?_
      refine hK.out _ _ ((by unfold Aft; exact Below.refl _ _)) ?_
      clear hK K
      try simp only [Act.put, List.setIfInBounds_toArray, List.set_cons_zero, List.set_cons_succ]
      refine reg_two 5 6 (by kernel_rfl) (by rfl) (by rfl) (fun K hK => ?_) (fun K hK => ?_)
      focus
        go_simp
        go_at_call 12; have hof := replyOf_any HQD.out HQL.out; rw [← HVS.out] at hof; refine hof.mono ?_; clear hof; rintro e w8 ⟨t8, rfl, hq8, hb8⟩
        refine hK.out _ _ (hb8) ?_
        clear hK K
        try simp only [Act.put, List.setIfInBounds_toArray, List.set_cons_zero, List.set_cons_succ]
        refine reg_call 6 (by kernel_rfl) (by rfl) (fun K hK => ?_)
        first | (refine step_loadW HXB.out (by rfl) 51 _ (by rfl) (by rfl) _ Try.underlying51 rfl (by rw [hul.out]; kernel_rfl) ?_) | (refine step_loadW (goesBx.after HXB.out hb8) (by rfl) 51 _ (by rfl) (by rfl) _ Try.underlying51 rfl (by rw [hul.out]; kernel_rfl) ?_)
        refine hK.out _ _ ((by unfold Aft; exact Below.refl _ _)) ?_
        clear hK K
        try simp only [Act.put, List.setIfInBounds_toArray, List.set_cons_zero, List.set_cons_succ]
        refine reg_call 7 (by kernel_rfl) (by rfl) (fun K hK => ?_)
        go_simp
        go_at_call 11; have hsm := same9_any hq8 (goesRf.after HFD.out hb8); rw [← HUS.out] at hsm; refine hsm.mono ?_; clear hsm; rintro e w9 ⟨rfl, hb9⟩
        refine hK.out _ _ (hb9) ?_
        clear hK K
        try simp only [Act.put, List.setIfInBounds_toArray, List.set_cons_zero, List.set_cons_succ]
        (refine reg_take 8 (v := ?_) (by rfl) (by kernel_rfl) (by kernel_rfl) (by kernel_rfl) (by exact fun _ _ _ h => h) (by rfl) ?_ ?_; rotate_left; focus (intro w hSw; go_simp; try with_reducible rfl))
        simp only [Act.put, List.setIfInBounds_toArray, List.set_cons_zero, List.set_cons_succ]
        (refine reg_take 9 (v := ?_) (by rfl) (by kernel_rfl) (by kernel_rfl) (by kernel_rfl) (by exact fun _ _ _ h => h) (by rfl) ?_ ?_; rotate_left; focus (intro w hSw; go_simp; try with_reducible rfl))
        simp only [Act.put, List.setIfInBounds_toArray, List.set_cons_zero, List.set_cons_succ]
        refine wpAnyH_done (by kernel_rfl) ?_ _
      rotate_left 1
      focus
        first | (refine step_loadW HXB.out (by rfl) 51 _ (by rfl) (by rfl) _ Try.underlying51 rfl (by rw [hul.out]; kernel_rfl) ?_) | (refine step_loadW (goesBx.after HXB.out hb8) (by rfl) 51 _ (by rfl) (by rfl) _ Try.underlying51 rfl (by rw [hul.out]; kernel_rfl) ?_)
        refine hK.out _ _ ((by unfold Aft; exact Below.refl _ _)) ?_
        clear hK K
        try simp only [Act.put, List.setIfInBounds_toArray, List.set_cons_zero, List.set_cons_succ]
        refine reg_call 5 (by kernel_rfl) (by rfl) (fun K hK => ?_)
        go_simp
        go_at_call 12; have hof := replyOf_any HQD.out HQL.out; rw [← HVS.out] at hof; refine hof.mono ?_; clear hof; rintro e w8 ⟨t8, rfl, hq8, hb8⟩
        refine hK.out _ _ (hb8) ?_
        clear hK K
        try simp only [Act.put, List.setIfInBounds_toArray, List.set_cons_zero, List.set_cons_succ]
        refine reg_call 7 (by kernel_rfl) (by rfl) (fun K hK => ?_)
        go_simp
        go_at_call 11; have hsm := same9_any hq8 (goesRf.after HFD.out hb8); rw [← HUS.out] at hsm; refine hsm.mono ?_; clear hsm; rintro e w9 ⟨rfl, hb9⟩
        refine hK.out _ _ (hb9) ?_
        clear hK K
        try simp only [Act.put, List.setIfInBounds_toArray, List.set_cons_zero, List.set_cons_succ]
        (refine reg_take 8 (v := ?_) (by rfl) (by kernel_rfl) (by kernel_rfl) (by kernel_rfl) (by exact fun _ _ _ h => h) (by rfl) ?_ ?_; rotate_left; focus (intro w hSw; go_simp; try with_reducible rfl))
        simp only [Act.put, List.setIfInBounds_toArray, List.set_cons_zero, List.set_cons_succ]
        (refine reg_take 9 (v := ?_) (by rfl) (by kernel_rfl) (by kernel_rfl) (by kernel_rfl) (by exact fun _ _ _ h => h) (by rfl) ?_ ?_; rotate_left; focus (intro w hSw; go_simp; try with_reducible rfl))
        simp only [Act.put, List.setIfInBounds_toArray, List.set_cons_zero, List.set_cons_succ]
        refine wpAnyH_done (by kernel_rfl) ?_ _
    rotate_left 2
    focus
      first | (refine step_loadW HXB.out (by rfl) 51 _ (by rfl) (by rfl) _ Try.underlying51 rfl (by rw [hul.out]; kernel_rfl) ?_) | (refine step_loadW (goesBx.after HXB.out hb8) (by rfl) 51 _ (by rfl) (by rfl) _ Try.underlying51 rfl (by rw [hul.out]; kernel_rfl) ?_)
      refine hK.out _ _ ((by unfold Aft; exact Below.refl _ _)) ?_
      clear hK K
      try simp only [Act.put, List.setIfInBounds_toArray, List.set_cons_zero, List.set_cons_succ]
      refine reg_call 4 (by kernel_rfl) (by rfl) (fun K hK => ?_)
      refine step_loadW HXA.out (by rfl) 39 _ (by rfl) (by rfl) _ Try.underlying39 rfl (by rw [hvl.out]; kernel_rfl) ?_
      refine hK.out _ _ ((by unfold Aft; exact Below.refl _ _)) ?_
      clear hK K
      try simp only [Act.put, List.setIfInBounds_toArray, List.set_cons_zero, List.set_cons_succ]
      refine reg_call 5 (by kernel_rfl) (by rfl) (fun K hK => ?_)
      go_simp
      go_at_call 12; have hof := replyOf_any HQD.out HQL.out; rw [← HVS.out] at hof; refine hof.mono ?_; clear hof; rintro e w8 ⟨t8, rfl, hq8, hb8⟩
      refine hK.out _ _ (hb8) ?_
      clear hK K
      try simp only [Act.put, List.setIfInBounds_toArray, List.set_cons_zero, List.set_cons_succ]
      refine reg_call 7 (by kernel_rfl) (by rfl) (fun K hK => ?_)
      go_simp
      go_at_call 11; have hsm := same9_any hq8 (goesRf.after HFD.out hb8); rw [← HUS.out] at hsm; refine hsm.mono ?_; clear hsm; rintro e w9 ⟨rfl, hb9⟩
      refine hK.out _ _ (hb9) ?_
      clear hK K
      try simp only [Act.put, List.setIfInBounds_toArray, List.set_cons_zero, List.set_cons_succ]
      (refine reg_take 8 (v := ?_) (by rfl) (by kernel_rfl) (by kernel_rfl) (by kernel_rfl) (by exact fun _ _ _ h => h) (by rfl) ?_ ?_; rotate_left; focus (intro w hSw; go_simp; try with_reducible rfl))
      simp only [Act.put, List.setIfInBounds_toArray, List.set_cons_zero, List.set_cons_succ]
      (refine reg_take 9 (v := ?_) (by rfl) (by kernel_rfl) (by kernel_rfl) (by kernel_rfl) (by exact fun _ _ _ h => h) (by rfl) ?_ ?_; rotate_left; focus (intro w hSw; go_simp; try with_reducible rfl))
      simp only [Act.put, List.setIfInBounds_toArray, List.set_cons_zero, List.set_cons_succ]
      refine wpAnyH_done (by kernel_rfl) ?_ _
    all_goals
      have HB9 : Hid (Below w.heap.size w w9) := Lib.hid (HB5.out.trans (((Below.refl w5.heap.size w5).drew.trans (hb8.trans (hb9.mono hb8.size))).mono hz5))
      clear hb8 hb9
      go_wp2_with fail
      go_ret
      exact ⟨by simp, HB9.out⟩
end Go.Proofs.Sb
