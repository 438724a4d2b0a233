/- The walk over signalboxlaw07.PrefixPuts: true at every input, and nothing that was there has turned. Conditions: each value of the payload up to 2^20 bytes. -/
import Derived.Test.YtpgcadicamnpkaaAwake7
import Derived.Test.YtpgcadicamnpkaaPrec
import Derived.Test.YtpgcadicamnpkaaPlaing
import Derived.Test.YtpgcadicamnpkaaRpput
set_option linter.unusedVariables false
set_option linter.unusedSimpArgs false
namespace Sb
theorem norm_all : ∀ {l : List (B × Val)}, (∀ x ∈ l, x.2.kind ≠ 2 → x.2.bytes = []) → (l.map fun p => (p.1, p.2.norm)) = l
  | [], _ => rfl
  | (s, v) :: l, h => by
    rw [List.map_cons, norm_all fun x hx => h x (List.mem_cons_of_mem _ hx)]
    have h1 := h (s, v) (List.mem_cons_self ..)
    congr 2
    unfold Val.norm
    by_cases hk : v.kind = 2
    · rw [if_pos hk]
    · rw [if_neg hk, ← h1 hk]
end Sb
namespace Go.Proofs.Sb
open Go.RowKit _root_.Sb

set_option maxHeartbeats 8000000 in
set_option maxRecDepth 100000 in
theorem prefixPuts_any {S0 S1 S2 T2 S3 : Nat → Prop} {A0 A1 A2 A : Option Addr} {n0 c0 n1 c1 n2 c2 m c : Nat} {p : Pre} {more : B} {w : World} (h0 : Sl S0 w A0 n0 c0 p.tracing) (h1 : Arr 1 strP S1 w A1 n1 c1 p.warnings) (h2 : Arr 3 (entryP T2 w) S2 w A2 n2 c2 p.payload)
    (hv : ∀ x ∈ p.payload, x.2.bytes.length ≤ 1048576) (hs : Sl S3 w A m c more) :
    Calls Try.prog 3 #[.agg #[.slice A0 n0 c0, .slice A1 n1 c1, .slice A2 n2 c2], .slice A m c] w fun e w' => e = .returned (.bool true) ∧ Below w.heap.size w w' := by
  have hl0 := Lib.hid h0.len
  have hl1 := Lib.hid h1.len
  have hl2 := Lib.hid h2.len
  have hlm := Lib.hid hs.len
  have hc0 := h0.cap
  have hm0 := h0.capMax
  have hc1 := h1.cap
  have hm1 := h1.capMax
  have hc2 := h2.cap
  have hm2 := h2.capMax
  have hcm := hs.cap
  have hmm := hs.capMax
  have H0 := Lib.hid h0.lt; clear h0
  have H1 := Lib.hid h1.lt; clear h1
  have H2 := Lib.hid h2; clear h2
  have HM := Lib.hid hs.lt; clear hs
  have HV := Lib.hid hv; clear hv
  obtain ⟨r, hr⟩ : ∃ r, preW p = r := ⟨_, rfl⟩
  have HR := Lib.hid hr; clear hr
  go_enter Try.func3, Try.ntmps3
  go_wp2_with fail
  refine (awake7 _).mono ?_
  rintro e w1 ⟨rfl, hb1⟩
  have p0 : w1.cell? ⟨w.heap.size, 0, none⟩ = some (.slice A0 n0 c0) := kcell hb1 (by go_simp)
  have p1 : w1.cell? ⟨w.heap.size, 1, none⟩ = some (.slice A1 n1 c1) := kcell hb1 (by go_simp)
  have p2 : w1.cell? ⟨w.heap.size, 2, none⟩ = some (.slice A2 n2 c2) := kcell hb1 (by go_simp)
  have bel1 : Below w.heap.size w w1 := Below.trans (by repeat (first | exact Below.refl _ _ | assumption | refine Below.drew ?_ | refine below_drewN ?_ _ | refine Below.alloc ?_ (by first | (simp; done) | omega | (simp; omega)) _ | refine Below.setCell ?_ (by first | (simp; done) | omega | (simp; omega)) _)) (hb1.mono (by simp))
  have hz1 := bel1.size
  have hlt1 : w.heap.size < w1.heap.size := by have := World.block_lt_of_cell? w1 _ p0; exact this
  clear hb1
  by_cases hbig1 : 50 < n1
  · go_wp2_with fail
    go_ret
    exact ⟨rfl, bel1⟩
  by_cases hbig2 : 50 < n2
  · go_wp2_with fail
    go_ret
    exact ⟨rfl, bel1⟩
  by_cases hbig0 : 50 < n0
  · go_wp2_with fail
    go_ret
    exact ⟨rfl, bel1⟩
  by_cases hbigm : 500 < m
  · go_wp2_with fail
    go_ret
    exact ⟨rfl, bel1⟩
  go_wp2_with fail
  go_loopw [6] (fun i wr => ∃ k : Nat, k ≤ n2 ∧ i = .int .i64 (k : Nat) ∧ Hid (∀ x ∈ p.payload.take k, x.2.kind ≠ 2 → x.2.bytes = []) ∧ w1 = wr) (fun i _ => n2 - (intOf i).toNat)
  case atStart => exact ⟨0, by omega, rfl, (by intro x hx; simp at hx), rfl⟩
  case round =>
    obtain ⟨k, hk, rfl, HK, rfl⟩ := hrel
    by_cases hlt : k < n2
    · obtain ⟨x, hx⟩ : ∃ x, p.payload[k]? = some x := ⟨_, List.getElem?_eq_getElem (by have := hl2.out; omega)⟩
      have HS1 := Lib.hid (H2.out.after bel1)
      obtain ⟨b, o, rfl, hSb, hbs, HC⟩ := HS1.out.at (by decide) (by omega)
      obtain ⟨v, hv1, hp, hv2⟩ := HC k x hx
      obtain ⟨A9, n9, c9, rfl, hxl, hsl⟩ := hp
      have HL9 := Lib.hid hsl.len
      have hc91 := hsl.cap
      have hc92 := hsl.capMax
      have hc1' := hv2 1 _ rfl
      have hc2' : w1.cell? ⟨b, o + k * 3 + 1 + 1, none⟩ = some (.slice A9 n9 c9) := hv2 2 _ rfl
      clear hv1 hv2 HC hsl
      have HX := Lib.hid hx; clear hx
      have step : ∀ h : x.2.kind ≠ 2 → x.2.bytes = [], ∀ y ∈ p.payload.take (k + 1), y.2.kind ≠ 2 → y.2.bytes = [] := by
        intro h y hy
        rw [List.take_add_one, List.mem_append] at hy
        rcases hy with hy | hy
        · exact HK.out y hy
        · rw [HX.out] at hy
          obtain rfl : y = x := by simpa using hy
          exact h
      have HST := Lib.hid step; clear step
      obtain ⟨kd, hkd⟩ : ∃ kd, x.2.kind = kd := ⟨_, rfl⟩
      rw [hkd] at hc1'
      rw [hkd] at HST
      clear hkd
      by_cases hk2 : kd = 2
      · have HS2 := Lib.hid (HST.out fun h => absurd hk2 h)
        have hk3 : (kd != 2) = false := by rw [hk2]; rfl
        have hk4 : (kd == 2) = true := by rw [hk2]; rfl
        clear hk2
        go_wp2_with fail
        refine ⟨⟨k + 1, by omega, by go_num, HS2, trivial⟩, by simp [intOf]; omega⟩
      · have hk3 : (kd != 2) = true := by simpa using hk2
        have hk4 : (kd == 2) = false := by simpa using hk2
        by_cases h9 : 0 < n9
        · go_wp2_with fail
          go_ret
          exact ⟨rfl, bel1⟩
        · obtain rfl : n9 = 0 := by omega
          have HS2 := Lib.hid (HST.out fun _ => List.eq_nil_of_length_eq_zero HL9.out.symm)
          go_wp2_with fail
          refine ⟨⟨k + 1, by omega, by go_num, HS2, trivial⟩, by simp [intOf]; omega⟩
    · obtain rfl : k = n2 := by omega
      have HN : Hid ((p.payload.map fun p => (p.1, p.2.norm)) = p.payload) := norm_all (by have := HK.out; rwa [List.take_of_length_le (by have := hl2.out; omega)] at this)
      clear HK hlt hk
      go_wp2_with fail
      refine (preput_any (H0.out.after bel1) (H1.out.after bel1) (entries_move H2.out bel1) HV.out (by omega) (by omega) r HR.out).mono ?_
      rintro e w2 ⟨A3, n3, c3, rfl, ho, hb2⟩
      have HO2 := Lib.hid ho; clear ho
      replace p0 := kcell hb2 p0
      replace p1 := kcell hb2 p1
      replace p2 := kcell hb2 p2
      have bel2 : Below w.heap.size w w2 := Below.trans bel1 (hb2.mono hz1)
      have hz2 := hb2.size
      go_wp2_with fail
      refine (prefixOf_any (p := p) (H0.out.after bel2) (H1.out.after bel2) (entries_move H2.out bel2) (by omega) (by omega)).mono ?_
      rintro e w3 ⟨B1, m1, d1, B2, m2, d2, rfl, j1, j2, hb3⟩
      have J1 := Lib.hid j1; clear j1
      have J2 := Lib.hid j2; clear j2
      have hj1 : m1 ≤ 50 := by have := J1.out.len; rw [List.length_map] at this; have := hl1.out; omega
      have hj2 : m2 ≤ 50 := by have := J2.out.len; rw [List.length_map] at this; have := hl2.out; omega
      replace p0 := kcell hb3 p0
      replace p1 := kcell hb3 p1
      replace p2 := kcell hb3 p2
      have bel3 := seqB bel2 hb3
      have hb23 := seqB hb2 hb3
      go_wp2_with fail
      refine (rpreput_any (p := p) J1.out J2.out HV.out hj1 hj2 r HR.out).mono ?_
      rintro e w4 ⟨C3, l3, e3, rfl, hs4, hb4⟩
      have HS4 := Lib.hid hs4; clear hs4
      replace p0 := kcell hb4 p0
      replace p1 := kcell hb4 p1
      replace p2 := kcell hb4 p2
      have bel4 := seqB bel3 hb4
      have HO4 := Lib.hid (HO2.out.after (seqB hb3 hb4))
      have hcb := conv_sl HO4.out.sl
      have hcc := conv_sl HS4.out
      have hz4 := (seqB hb23 hb4).size
      cases r with
      | error er =>
        have hne : er ≠ 0 := preW_ne HR.out
        have hne2 : (er != 0) = true := by simpa using hne
        simp only [perr, pflag]
        go_wp2_with fail
        go_ret
        exact ⟨by simp, bel4⟩
      | ok x =>
        obtain ⟨xb, xf⟩ := x
        have hfl := (preW_flags HR.out).2.2.2
        have hxl := preW_len HR.out (by have := hl1.out; omega) (by have := hl2.out; omega) HV.out
        simp only [perr, pflag, pval] at HO4 hcb hcc ⊢
        have HB := Lib.hid (preW_back HR.out (fun x hx => by have := HV.out x hx; unfold val31; omega) more)
        rw [HN.out] at HB
        have hl4 := HO4.out.len
        have HLB := Lib.hid hl4; clear hl4
        go_wp2_with (first | (at_builtin; refine wpList_appw rfl _ _ rfl w1.heap.size _ _ _ xb rfl HO4.out _ _ _ _ more rfl (HM.out.after bel4) (by have := hlm.out; omega) hz4 ?_; intro A5 m5 d5 w5 hown5 hg5 hwh5; have hb5 : Below w1.heap.size w4 w5 := below_grow (Below.refl _ _) hg5 hz4 fun b e => (HO4.out.block b e).1; have HO5 := Lib.hid hown5; clear hown5))
        clear hcb hcc
        replace p0 := bcx hb5 hlt1 p0
        replace p1 := bcx hb5 hlt1 p1
        replace p2 := bcx hb5 hlt1 p2
        have bel5 : Below w.heap.size w w5 := bel4.trans (hb5.mono hz1)
        have hl5 := HO5.out.len
        rw [List.length_append] at hl5
        have HL5 := Lib.hid hl5; clear hl5
        refine (resp_any HO5.out.sl (by have := HL5.out; have := hlm.out; omega) hfl _ HB.out).mono ?_
        rintro e w6 ⟨F0, o0, x0, F1, o1, x1, F2, o2, x2, F3, o3, x3, rfl, i0, i1, i2, i3, hb6⟩
        simp only [rval_ok, rrest_ok, rerr_ok] at i0 i1 i2 i3 ⊢
        replace p0 := kcell hb6 p0
        replace p1 := kcell hb6 p1
        replace p2 := kcell hb6 p2
        have bel6 := seqB bel5 hb6
        have hz6 := bel6.size
        have hlt6 := World.block_lt_of_cell? w6 ⟨w.heap.size, 0, none⟩ p0
        simp only at hlt6
        obtain ⟨W, hW⟩ : ∃ W, W = ((w6.alloc (.cells #[.slice F0 o0 x0, .slice F1 o1 x1, .slice F2 o2 x2] 26)).drew) := ⟨_, rfl⟩
        have kW : Below w6.heap.size w6 W := by rw [hW]; exact (by repeat (first | exact Below.refl _ _ | assumption | refine Below.drew ?_ | refine below_drewN ?_ _ | refine Below.alloc ?_ (by simp) _ | refine Below.setCell ?_ (by simp) _))
        have y0 := Aft.each (show W.cell? ⟨w6.heap.size, 0, none⟩ = some (.slice F0 o0 x0) by rw [hW]; go_simp)
        have y1 := Aft.each (show W.cell? ⟨w6.heap.size, 1, none⟩ = some (.slice F1 o1 x1) by rw [hW]; go_simp)
        have y2 := Aft.each (show W.cell? ⟨w6.heap.size, 2, none⟩ = some (.slice F2 o2 x2) by rw [hW]; go_simp)
        have a0 := Aft.each (kcell kW p0)
        have a1 := Aft.each (kcell kW p1)
        have a2 := Aft.each (kcell kW p2)
        have BW := Lib.hid (seqB bel6 kW)
        have D0 := Lib.hid (i0.after kW)
        have D1 := Lib.hid (i1.after kW)
        have D2 := Lib.hid (entries_move i2 kW)
        have D3 := Lib.hid (i3.after kW)
        have hcB : ∀ w', Aft W w' → (convert 22 9 (.slice F3 o3 x3)).run Try.prog w' = .ok (.string (str more)) w' := fun w' h => conv_sl (D3.out.after h)
        have hcC : ∀ w', Aft W w' → (convert 22 9 (.slice A m c)).run Try.prog w' = .ok (.string (str more)) w' := fun w' h => conv_sl ((HM.out.after BW.out).after h)
        have hn1 : o1 ≤ 1000000 := by have := D1.out.len; have := hl1.out; omega
        have hn2 : o2 ≤ 1000000 := by have := D2.out.len; have := hl2.out; omega
        clear i0 i1 i2 i3 p0 p1 p2
        go_wp2_with fail
        subst hW
        refine reg_start (by kernel_rfl) ?_
        (refine reg_take 0 (v := ?_) (by rfl) (by kernel_rfl) (by kernel_rfl) (by kernel_rfl) (by exact fun _ _ _ h => h) (by rfl) ?_ ?_; rotate_left; focus (intro w hSw; go_simp; try with_reducible rfl))
        simp only [Act.put, List.setIfInBounds_toArray, List.set_cons_zero, List.set_cons_succ]
        (refine reg_take 1 (v := ?_) (by rfl) (by kernel_rfl) (by kernel_rfl) (by kernel_rfl) (by exact fun _ _ _ h => h) (by rfl) ?_ ?_; rotate_left; focus (intro w hSw; go_simp; try with_reducible rfl))
        simp only [Act.put, List.setIfInBounds_toArray, List.set_cons_zero, List.set_cons_succ]
        (refine reg_take 2 (v := ?_) (by rfl) (by kernel_rfl) (by kernel_rfl) (by kernel_rfl) (by exact fun _ _ _ h => h) (by rfl) ?_ ?_; rotate_left; focus (intro w hSw; go_simp; try with_reducible rfl))
        simp only [Act.put, List.setIfInBounds_toArray, List.set_cons_zero, List.set_cons_succ]
        first | (refine reg_skip 3 (by rfl) (by kernel_rfl) (by kernel_rfl) (by kernel_rfl) (by exact fun _ _ _ h => h) (by rfl) ?_) | (refine reg_take 3 (v := ?_) (by rfl) (by kernel_rfl) (by kernel_rfl) (by kernel_rfl) (by exact fun _ _ _ h => h) (by rfl) ?_ ?_; rotate_left; focus (intro w hSw; go_simp; try with_reducible rfl))
        simp only [Act.put, List.setIfInBounds_toArray, List.set_cons_zero, List.set_cons_succ]
        first | (refine reg_skip 4 (by rfl) (by kernel_rfl) (by kernel_rfl) (by kernel_rfl) (by exact fun _ _ _ h => h) (by rfl) ?_) | (refine reg_take 4 (v := ?_) (by rfl) (by kernel_rfl) (by kernel_rfl) (by kernel_rfl) (by exact fun _ _ _ h => h) (by rfl) ?_ ?_; rotate_left; focus (intro w hSw; go_simp; try with_reducible rfl))
        simp only [Act.put, List.setIfInBounds_toArray, List.set_cons_zero, List.set_cons_succ]
        first | (refine reg_skip 5 (by rfl) (by kernel_rfl) (by kernel_rfl) (by kernel_rfl) (by exact fun _ _ _ h => h) (by rfl) ?_) | (refine reg_take 5 (v := ?_) (by rfl) (by kernel_rfl) (by kernel_rfl) (by kernel_rfl) (by exact fun _ _ _ h => h) (by rfl) ?_ ?_; rotate_left; focus (intro w hSw; go_simp; try with_reducible rfl))
        simp only [Act.put, List.setIfInBounds_toArray, List.set_cons_zero, List.set_cons_succ]
        first | (refine reg_skip 6 (by rfl) (by kernel_rfl) (by kernel_rfl) (by kernel_rfl) (by exact fun _ _ _ h => h) (by rfl) ?_) | (refine reg_take 6 (v := ?_) (by rfl) (by kernel_rfl) (by kernel_rfl) (by kernel_rfl) (by exact fun _ _ _ h => h) (by rfl) ?_ ?_; rotate_left; focus (intro w hSw; go_simp; try with_reducible rfl))
        simp only [Act.put, List.setIfInBounds_toArray, List.set_cons_zero, List.set_cons_succ]
        first | (refine reg_skip 7 (by rfl) (by kernel_rfl) (by kernel_rfl) (by kernel_rfl) (by exact fun _ _ _ h => h) (by rfl) ?_) | (refine reg_take 7 (v := ?_) (by rfl) (by kernel_rfl) (by kernel_rfl) (by kernel_rfl) (by exact fun _ _ _ h => h) (by rfl) ?_ ?_; rotate_left; focus (intro w hSw; go_simp; try with_reducible rfl))
        simp only [Act.put, List.setIfInBounds_toArray, List.set_cons_zero, List.set_cons_succ]
        (refine reg_take 8 (v := ?_) (by rfl) (by kernel_rfl) (by kernel_rfl) (by kernel_rfl) (by exact fun _ _ _ h => h) (by rfl) ?_ ?_; rotate_left; focus (intro w hSw; go_simp; try with_reducible rfl))
        simp only [Act.put, List.setIfInBounds_toArray, List.set_cons_zero, List.set_cons_succ]
        (refine reg_take 9 (v := ?_) (by rfl) (by kernel_rfl) (by kernel_rfl) (by kernel_rfl) (by exact fun _ _ _ h => h) (by rfl) ?_ ?_; rotate_left; focus (intro w hSw; go_simp; try with_reducible rfl))
        simp only [Act.put, List.setIfInBounds_toArray, List.set_cons_zero, List.set_cons_succ]
        first | (refine reg_skip 10 (by rfl) (by kernel_rfl) (by kernel_rfl) (by kernel_rfl) (by exact fun _ _ _ h => h) (by rfl) ?_) | (refine reg_take 10 (v := ?_) (by rfl) (by kernel_rfl) (by kernel_rfl) (by kernel_rfl) (by exact fun _ _ _ h => h) (by rfl) ?_ ?_; rotate_left; focus (intro w hSw; go_simp; try with_reducible rfl))
        simp only [Act.put, List.setIfInBounds_toArray, List.set_cons_zero, List.set_cons_succ]
        first | (refine reg_skip 12 (by rfl) (by kernel_rfl) (by kernel_rfl) (by kernel_rfl) (by exact fun _ _ _ h => h) (by rfl) ?_) | (refine reg_take 12 (v := ?_) (by rfl) (by kernel_rfl) (by kernel_rfl) (by kernel_rfl) (by exact fun _ _ _ h => h) (by rfl) ?_ ?_; rotate_left; focus (intro w hSw; go_simp; try with_reducible rfl))
        simp only [Act.put, List.setIfInBounds_toArray, List.set_cons_zero, List.set_cons_succ]
        refine reg_call 11 (by kernel_rfl) (by rfl) (fun K hK => ?_)
        go_simp
        go_at_call 10; refine (prefixOf_any (p := p) D0.out D1.out D2.out hn1 hn2).mono ?_; rintro e w7 ⟨X1, v1, t1, X2, v2, t2, rfl, j1, j2, hb7⟩
        refine hK.out _ _ (hb7) ?_
        clear hK K
        try simp only [Act.put, List.setIfInBounds_toArray, List.set_cons_zero, List.set_cons_succ]
        refine reg_call 13 (by kernel_rfl) (by rfl) (fun K hK => ?_)
        go_simp
        go_at_call 10; refine (prefixOf_any (p := p) (H0.out.after (seqB BW.out hb7)) (H1.out.after (seqB BW.out hb7)) (entries_move H2.out (seqB BW.out hb7)) (by omega) (by omega)).mono ?_; rintro e w8 ⟨X3, v3, t3, X4, v4, t4, rfl, j3, j4, hb8⟩
        refine hK.out _ _ (hb8) ?_
        clear hK K
        try simp only [Act.put, List.setIfInBounds_toArray, List.set_cons_zero, List.set_cons_succ]
        refine reg_call 14 (by kernel_rfl) (by rfl) (fun K hK => ?_)
        go_simp
        go_at_call 12; refine (same7_any (j1.after hb8) (j2.after hb8) j3 j4).mono ?_; rintro e w9 ⟨rfl, hb9⟩
        refine hK.out _ _ (hb9) ?_
        clear hK K
        try simp only [Act.put, List.setIfInBounds_toArray, List.set_cons_zero, List.set_cons_succ]
        (refine reg_take 15 (v := ?_) (by rfl) (by kernel_rfl) (by kernel_rfl) (by kernel_rfl) (by exact fun _ _ _ h => h) (by rfl) ?_ ?_; rotate_left; focus (intro w hSw; go_simp; try with_reducible rfl))
        simp only [Act.put, List.setIfInBounds_toArray, List.set_cons_zero, List.set_cons_succ]
        (refine reg_take 16 (v := ?_) (by rfl) (by kernel_rfl) (by kernel_rfl) (by kernel_rfl) (by exact fun _ _ _ h => h) (by rfl) ?_ ?_; rotate_left; focus (intro w hSw; go_simp; try with_reducible rfl))
        simp only [Act.put, List.setIfInBounds_toArray, List.set_cons_zero, List.set_cons_succ]
        refine wpAnyH_done (by kernel_rfl) ?_ _
        go_wp2_with fail
        go_ret
        exact ⟨by simp, seqB BW.out (seqB hb7 (seqB hb8 hb9))⟩
end Go.Proofs.Sb
