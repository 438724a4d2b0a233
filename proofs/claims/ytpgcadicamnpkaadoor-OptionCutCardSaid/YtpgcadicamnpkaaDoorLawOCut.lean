/- The walk over signalboxlaw04.OptionCut: true at every input, and nothing that was there has turned. Conditions: the table of names reads as it was laid. -/
import Derived.Test.YtpgcadicamnpkaaDoorAwake4
import Derived.Test.YtpgcadicamnpkaaDoorOptf
import Derived.Test.YtpgcadicamnpkaaDoorCutm
set_option linter.unusedVariables false
set_option linter.unusedSimpArgs false
namespace Go.Proofs.Sb
open Go.RowKit _root_.Sb

theorem putW_ne {d : Nat} {o : Opt} {e : Int} (h : putW d o = .error e) : e ≠ 0 := by
  unfold putW at h
  split at h
  · injection h with h; omega
  · exact putD_ne h
set_option maxHeartbeats 4000000 in
set_option maxRecDepth 100000 in
theorem optionCut_any {d : Nat} {S : Nat → Prop} {M : Nat} {A1 : Option Addr} {n1 c1 : Nat} {A2 : Option Addr} {n2 c2 : Nat} {o : Opt} {i : Int} {w : World} (ho : OptR S w M d A1 n1 c1 A2 n2 c2 o) (hM : M ≤ 9223372036854775807) (hpl : Pl w) :
    Calls Tryd.prog 9 #[optV o A1 n1 c1 A2 n2 c2, .int .i64 i] w fun e w' => e = .returned (.bool true) ∧ Below w.heap.size w w' := by
  have HO := Lib.hid ho; clear ho
  have HPL := Lib.hid hpl; clear hpl
  obtain ⟨kk, hkk, hand⟩ := and_ex i
  have HAND := Lib.hid hand; clear hand
  obtain ⟨fv, hfv⟩ : ∃ fv, fewD (d + 1) o 0 = fv := ⟨_, rfl⟩
  have HFV := Lib.hid hfv; clear hfv
  obtain ⟨r, hr⟩ : ∃ r, putW (d + 1) o = r := ⟨_, rfl⟩
  have HR := Lib.hid hr; clear hr
  go_enter Tryd.func9, Tryd.ntmps9
  go_wp2_with fail
  refine (awake4 (HPL.out.after (by repeat (first | exact Below.refl _ _ | assumption | refine Below.drew ?_ | refine below_drewN ?_ _ | refine Below.alloc ?_ (by first | (simp; done) | omega | (simp; omega)) _ | refine Below.setCell ?_ (by first | (simp; done) | omega | (simp; omega)) _)))).mono ?_
  rintro e w1 ⟨rfl, hb1⟩
  have p0 : w1.cell? ⟨w.heap.size, 0, none⟩ = some (.int .u16 (o.id : Int)) := kcell hb1 (by go_simp)
  have p1 : w1.cell? ⟨w.heap.size, 1, none⟩ = some (.string (str o.space)) := kcell hb1 (by go_simp)
  have p2 : w1.cell? ⟨w.heap.size, 2, none⟩ = some (.string (str o.name)) := kcell hb1 (by go_simp)
  have p3 : w1.cell? ⟨w.heap.size, 3, none⟩ = some (.slice A1 n1 c1) := kcell hb1 (by go_simp)
  have p4 : w1.cell? ⟨w.heap.size, 4, none⟩ = some (.slice A2 n2 c2) := kcell hb1 (by go_simp)
  replace hb1 : Below w.heap.size w w1 := Below.trans (by repeat (first | exact Below.refl _ _ | assumption | refine Below.drew ?_ | refine below_drewN ?_ _ | refine Below.alloc ?_ (by first | (simp; done) | omega | (simp; omega)) _ | refine Below.setCell ?_ (by first | (simp; done) | omega | (simp; omega)) _)) (hb1.mono (by simp))
  go_wp2_with fail
  refine (few_any d (deep := 0) (HO.out.after hb1) (by omega)).mono ?_
  rintro e w2 ⟨rfl, hb2⟩
  rw [HFV.out]
  replace p0 := kcell hb2 p0
  replace p1 := kcell hb2 p1
  replace p2 := kcell hb2 p2
  replace p3 := kcell hb2 p3
  replace p4 := kcell hb2 p4
  have hb02 := seqB hb1 hb2
  cases fv with
  | false =>
    go_wp2_with fail
    go_ret
    exact ⟨rfl, hb02⟩
  | true =>
    have hn := (few_size HFV.out).2
    go_wp2_with fail
    refine (oPut_any (HO.out.after hb02) hM (HPL.out.after hb02) (by omega) r HR.out).mono ?_
    rintro e w3 ⟨A3, n3, c3, rfl, ho3, hb3⟩
    clear p0 p1 p2 p3 p4
    have hb03 := seqB hb02 hb3
    have hl3 := ho3.len
    have hs3 := Lib.hid ho3.sl
    have hcap := ho3.sl.cap
    have hcm := ho3.sl.capMax
    clear ho3
    cases r with
    | error er =>
      have hne := putW_ne HR.out
      simp only [wval_error, List.length_nil] at hl3
      subst hl3
      go_wp2_with fail
      go_ret
      exact ⟨rfl, hb03⟩
    | ok b =>
      have hpd : depthD (d + 1) o ≤ 20 ∧ putD (d + 1) o = .ok b := by
        have h := HR.out
        unfold putW at h
        split at h
        · cases h
        · exact ⟨by omega, h⟩
      have HPD := Lib.hid hpd; clear hpd
      have hbl := putD_len HPD.out.2
      have hpos : 0 < b.length := by
        obtain ⟨m, _, _, x, y, _, _, _, rfl⟩ := putD_parts HPD.out.2
        rw [List.length_append, enc_length]
        omega
      simp only [wval_ok] at hl3 hs3
      have hn3 : 0 < n3 := by omega
      have hlim : n3 ≤ 140737488355328 := by omega
      have HC : Hid (getO 20 (b.take (kk % n3)) = .error 10) := getO_cut' HPD.out.1 HPD.out.2 (by rw [← hl3]; exact Nat.mod_lt kk hn3)
      have HL3 := Lib.hid hl3; clear hl3 hbl hpos
      have hand := HAND.out
      have hcut3 := run_headm A3 n3 c3 kk hn3 hcap
      have hmod := Nat.mod_lt kk hn3
      go_wp2_with fail
      refine (oGet_any (hs3.out.take (kk % n3) (by omega)) (by omega) (HPL.out.after hb03) (.error 10) HC.out).mono ?_
      rintro e w4 ⟨B1, l1, d1, B2, l2, d2, B3, l3, d3, rfl, i0, i3, hb4⟩
      have hb04 := seqB hb03 hb4
      obtain rfl : l3 = 0 := i3.len
      clear i0 i3
      simp only [rerr_error]
      go_wp2_with fail
      go_ret
      exact ⟨by simp, hb04.alloc hb04.size _⟩
end Go.Proofs.Sb
