/- The walk over signalboxlaw04.OptionPuts: true at every input whose texts are not too long, and nothing that was there has turned. Conditions: the table of names reads as it was laid. -/
import Derived.Test.YtpgcadicamnpkaaDoorAwake4
import Derived.Test.YtpgcadicamnpkaaDoorOptf
import Derived.Test.YtpgcadicamnpkaaDoorOptl
import Derived.Test.YtpgcadicamnpkaaDoorOptr
import Derived.Test.YtpgcadicamnpkaaDoorOptx
set_option linter.unusedVariables false
set_option linter.unusedSimpArgs false
namespace Go.Proofs.Sb
open Go.RowKit _root_.Sb

set_option maxHeartbeats 4000000 in
set_option maxRecDepth 100000 in
theorem optionPuts_any {d : Nat} {S : Nat → Prop} {M : Nat} {A1 : Option Addr} {n1 c1 : Nat} {A2 : Option Addr} {n2 c2 : Nat} {o : Opt} {w : World} (ho : OptR S w M d A1 n1 c1 A2 n2 c2 o) (hM : M ≤ 1048576) (hpl : Pl w) :
    Calls Tryd.prog 3 #[optV o A1 n1 c1 A2 n2 c2] w fun e w' => e = .returned (.bool true) ∧ Below w.heap.size w w' := by
  have HO := Lib.hid ho; clear ho
  have HPL := Lib.hid hpl; clear hpl
  obtain ⟨fv, hfv⟩ : ∃ fv, fewD (d + 1) o 0 = fv := ⟨_, rfl⟩
  have HFV := Lib.hid hfv; clear hfv
  obtain ⟨r, hr⟩ : ∃ r, putW (d + 1) o = r := ⟨_, rfl⟩
  have HR := Lib.hid hr; clear hr
  obtain ⟨rt, hrt⟩ : ∃ r, textW (d + 1) o = r := ⟨_, rfl⟩
  have HRT := Lib.hid hrt; clear hrt
  go_enter Tryd.func3, Tryd.ntmps3
  go_wp2_with fail
  refine (awake4 (HPL.out.after (by repeat (first | exact Below.refl _ _ | assumption | refine Below.drew ?_ | refine below_drewN ?_ _ | refine Below.alloc ?_ (by first | (simp; done) | omega | (simp; omega)) _ | refine Below.setCell ?_ (by first | (simp; done) | omega | (simp; omega)) _)))).mono ?_
  rintro e w1 ⟨rfl, hb1⟩
  have p0 : w1.cell? ⟨w.heap.size, 0, none⟩ = some (.int .u16 (o.id : Int)) := kcell hb1 (by go_simp)
  have p1 : w1.cell? ⟨w.heap.size, 1, none⟩ = some (.string (str o.space)) := kcell hb1 (by go_simp)
  have p2 : w1.cell? ⟨w.heap.size, 2, none⟩ = some (.string (str o.name)) := kcell hb1 (by go_simp)
  have p3 : w1.cell? ⟨w.heap.size, 3, none⟩ = some (.slice A1 n1 c1) := kcell hb1 (by go_simp)
  have p4 : w1.cell? ⟨w.heap.size, 4, none⟩ = some (.slice A2 n2 c2) := kcell hb1 (by go_simp)
  replace hb1 : Below w.heap.size w w1 := Below.trans (by repeat (first | exact Below.refl _ _ | assumption | refine Below.drew ?_ | refine below_drewN ?_ _ | refine Below.alloc ?_ (by first | (simp; done) | omega | (simp; omega)) _ | refine Below.setCell ?_ (by first | (simp; done) | omega | (simp; omega)) _)) (hb1.mono (by simp))
  go_wp2_with fail
  refine (few_any d (deep := 0) (HO.out.after hb1) (by omega)).mono ?_
  rintro e w2 ⟨rfl, hb2⟩
  rw [HFV.out]
  replace p0 := kcell hb2 p0
  replace p1 := kcell hb2 p1
  replace p2 := kcell hb2 p2
  replace p3 := kcell hb2 p3
  replace p4 := kcell hb2 p4
  have hb02 := seqB hb1 hb2
  cases fv with
  | false =>
    go_wp2_with fail
    go_ret
    exact ⟨rfl, hb02⟩
  | true =>
    have hn := (few_size HFV.out).2
    have hlim : nD (d + 1) o * (2 * M + 30) ≤ 140737488355328 := Nat.le_trans (Nat.mul_le_mul (show nD (d + 1) o ≤ 500 by omega) (show 2 * M + 30 ≤ 2 * 1048576 + 30 by omega)) (by decide)
    have HLIM := Lib.hid hlim; clear hlim
    have htl := tell_lim HO.out hM (by omega)
    go_wp2_with fail
    refine (oPut_any (HO.out.after hb02) (by omega) (HPL.out.after hb02) (by omega) r HR.out).mono ?_
    rintro e w3 ⟨A3, n3, c3, rfl, ho3, hb3⟩
    replace p0 := kcell hb3 p0
    replace p1 := kcell hb3 p1
    replace p2 := kcell hb3 p2
    replace p3 := kcell hb3 p3
    replace p4 := kcell hb3 p4
    have hb03 := seqB hb02 hb3
    have HS3 := Lib.hid ho3.sl; clear ho3
    go_wp2_with fail
    refine (Put4_any (HO.out.after hb03) (by omega) (by omega) r HR.out).mono ?_
    rintro e w4 ⟨A4, n4, c4, rfl, ho4, hb4⟩
    replace p0 := kcell hb4 p0
    replace p1 := kcell hb4 p1
    replace p2 := kcell hb4 p2
    replace p3 := kcell hb4 p3
    replace p4 := kcell hb4 p4
    have hb04 := seqB hb03 hb4
    have HS4 := Lib.hid ho4.sl; clear ho4
    go_wp2_with fail
    refine (oText_any (HO.out.after hb04) (HPL.out.after hb04) (by omega) (by omega) rt HRT.out).mono ?_
    rintro e w5 ⟨rfl, hb5⟩
    replace p0 := kcell hb5 p0
    replace p1 := kcell hb5 p1
    replace p2 := kcell hb5 p2
    replace p3 := kcell hb5 p3
    replace p4 := kcell hb5 p4
    have hb05 := seqB hb04 hb5
    go_wp2_with fail
    refine (Text4_any (HO.out.after hb05) (by omega) HLIM.out rt HRT.out).mono ?_
    rintro e w6 ⟨rfl, hb6⟩
    clear p0 p1 p2 p3 p4
    have hb06 := seqB hb05 hb6
    have hc3 := conv_sl (HS3.out.after (seqB hb4 (seqB hb5 hb6)))
    have hc4 := conv_sl (HS4.out.after (seqB hb5 hb6))
    go_wp2_with fail
    go_ret
    exact ⟨by simp, hb06⟩
end Go.Proofs.Sb
