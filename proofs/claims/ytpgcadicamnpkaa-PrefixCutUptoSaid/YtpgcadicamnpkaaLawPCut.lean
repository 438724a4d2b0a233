/- The walk over signalboxlaw07.PrefixCut: true at every input, and nothing that was there has turned. Conditions: each value of the payload up to 2^20 bytes. -/
import Derived.Test.YtpgcadicamnpkaaAwake7
import Derived.Test.YtpgcadicamnpkaaPrec
import Derived.Test.YtpgcadicamnpkaaPlaing
import Derived.Test.YtpgcadicamnpkaaCutm
set_option linter.unusedVariables false
set_option linter.unusedSimpArgs false
namespace Go.Proofs.Sb
open Go.RowKit _root_.Sb

set_option maxHeartbeats 8000000 in
set_option maxRecDepth 100000 in
theorem prefixCut_any {S0 S1 S2 T2 : Nat → Prop} {A0 A1 A2 : Option Addr} {n0 c0 n1 c1 n2 c2 : Nat} {p : Pre} {i : Int} {w : World} (h0 : Sl S0 w A0 n0 c0 p.tracing) (h1 : Arr 1 strP S1 w A1 n1 c1 p.warnings) (h2 : Arr 3 (entryP T2 w) S2 w A2 n2 c2 p.payload)
    (hv : ∀ x ∈ p.payload, x.2.bytes.length ≤ 1048576) :
    Calls Try.prog 4 #[.agg #[.slice A0 n0 c0, .slice A1 n1 c1, .slice A2 n2 c2], .int .i64 i] w fun e w' => e = .returned (.bool true) ∧ Below w.heap.size w w' := by
  have hl0 := Lib.hid h0.len
  have hl1 := Lib.hid h1.len
  have hl2 := Lib.hid h2.len
  have hc0 := h0.cap
  have hm0 := h0.capMax
  have hc1 := h1.cap
  have hm1 := h1.capMax
  have hc2 := h2.cap
  have hm2 := h2.capMax
  have H0 := Lib.hid h0; clear h0
  have H1 := Lib.hid h1; clear h1
  have H2 := Lib.hid h2; clear h2
  have HV := Lib.hid hv; clear hv
  obtain ⟨kk, hkk, hand⟩ := and_ex i
  have HAND := Lib.hid hand; clear hand
  obtain ⟨r, hr⟩ : ∃ r, preW p = r := ⟨_, rfl⟩
  have HR := Lib.hid hr; clear hr
  go_enter Try.func4, Try.ntmps4
  go_wp2_with fail
  refine (awake7 _).mono ?_
  rintro e w1 ⟨rfl, hb1⟩
  have p0 : w1.cell? ⟨w.heap.size, 0, none⟩ = some (.slice A0 n0 c0) := kcell hb1 (by go_simp)
  have p1 : w1.cell? ⟨w.heap.size, 1, none⟩ = some (.slice A1 n1 c1) := kcell hb1 (by go_simp)
  have p2 : w1.cell? ⟨w.heap.size, 2, none⟩ = some (.slice A2 n2 c2) := kcell hb1 (by go_simp)
  have bel1 : Below w.heap.size w w1 := Below.trans (by repeat (first | exact Below.refl _ _ | assumption | refine Below.drew ?_ | refine below_drewN ?_ _ | refine Below.alloc ?_ (by first | (simp; done) | omega | (simp; omega)) _ | refine Below.setCell ?_ (by first | (simp; done) | omega | (simp; omega)) _)) (hb1.mono (by simp))
  have hz1 := bel1.size
  clear hb1
  by_cases hbig1 : 50 < n1
  · go_wp2_with fail
    go_ret
    exact ⟨rfl, bel1⟩
  · by_cases hbig2 : 50 < n2
    · go_wp2_with fail
      go_ret
      exact ⟨rfl, bel1⟩
    · by_cases hbig0 : 50 < n0
      · go_wp2_with fail
        go_ret
        exact ⟨rfl, bel1⟩
      · go_wp2_with fail
        refine (preput_any (H0.out.after bel1) (H1.out.after bel1) (entries_move H2.out bel1) HV.out (by omega) (by omega) r HR.out).mono ?_
        rintro e w2 ⟨A3, n3, c3, rfl, ho, hb2⟩
        have bel2 : Below w.heap.size w w2 := Below.trans bel1 (hb2.mono hz1)
        have hz2 := bel2.size
        cases r with
        | error er =>
          have hne : er ≠ 0 := preW_ne HR.out
          have hne2 : (er != 0) = true := by simpa using hne
          obtain rfl : n3 = 0 := ho.len
          simp only [perr, pflag]
          go_wp2_with fail
          go_ret
          exact ⟨by simp, bel2⟩
        | ok x =>
          obtain ⟨xb, xf⟩ := x
          have hfl := (preW_flags HR.out).2.2.2
          simp only [perr, pflag, pval] at ho ⊢
          have hln := Lib.hid ho.len
          have hs3 := Lib.hid ho.sl
          have h3c := hs3.out.cap
          have h3m := hs3.out.capMax
          clear ho
          by_cases hz : n3 = 0
          · subst hz
            have hx : xb = [] := List.eq_nil_of_length_eq_zero hln.out.symm
            subst hx
            obtain rfl := preW_nil HR.out
            clear hln hs3 hfl
            go_wp2_with fail
            go_ret
            exact ⟨by simp, bel2⟩
          · have hm3 : 0 < n3 := by omega
            have hlim : n3 ≤ 1000000000 := by
              have := preW_len HR.out (by have := hl1.out; omega) (by have := hl2.out; omega) HV.out
              have := hln.out
              omega
            have HC : Hid (readR xf respParts Pre.none (xb.take (kk % n3)) = .error 10) := preW_cut HR.out (fun x hx => by have := HV.out x hx; unfold val31; omega) (by have := Nat.mod_lt kk hm3; have := hln.out; omega)
            have hand := HAND.out
            have hcut3 := run_headm A3 n3 c3 kk hm3 h3c
            go_wp2_with fail
            refine (resp_any (hs3.out.take (kk % n3) (by have := Nat.mod_lt kk hm3; omega)) (by have := Nat.mod_lt kk hm3; omega) hfl (.error 10) HC.out).mono ?_
            rintro e w3 ⟨B0, l0, d0, B1, l1, d1, B2, l2, d2, B3, l3, d3, rfl, i0, i1, i2, i3, hb3⟩
            have bel3 : Below w.heap.size w w3 := Below.trans bel2 (hb3.mono hz2)
            have hz3 := bel3.size
            obtain rfl : l3 = 0 := i3.len
            clear i0 i1 i2 i3
            simp only [rerr_error]
            go_wp2_with fail
            go_ret
            exact ⟨by simp, Below.trans bel3 (Below.mono (show Below w3.heap.size w3 _ from (by repeat (first | exact Below.refl _ _ | assumption | refine Below.drew ?_ | refine below_drewN ?_ _ | refine Below.alloc ?_ (by simp) _ | refine Below.setCell ?_ (by simp) _))) hz3)⟩
end Go.Proofs.Sb
