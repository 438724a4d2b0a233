/- The walk over signalboxlaw04.OptionGets: true at every input, and nothing that was there has turned. Conditions: the table of names reads as it was laid. -/
import Derived.Test.YtpgcadicamnpkaaDoorAwake4
import Derived.Test.YtpgcadicamnpkaaDoorOptu
import Derived.Test.YtpgcadicamnpkaaDoorOptv
set_option linter.unusedVariables false
set_option linter.unusedSimpArgs false
namespace Go.Proofs.Sb
open Go.RowKit _root_.Sb

set_option maxHeartbeats 4000000 in
set_option maxRecDepth 100000 in
theorem optionGets_any {S : Nat → Prop} {A : Option Addr} {m c : Nat} {bs : B} {w : World} (hs : Sl S w A m c bs) (hpl : Pl w) :
    Calls Tryd.prog 4 #[.slice A m c] w fun e w' => e = .returned (.bool true) ∧ Below w.heap.size w w' := by
  have hcap := hs.cap
  have hcm := hs.capMax
  have HLEN := Lib.hid hs.len
  have HS := Lib.hid hs; clear hs
  have HPL := Lib.hid hpl; clear hpl
  obtain ⟨r, hr⟩ : ∃ r, getO 20 bs = r := ⟨_, rfl⟩
  have HR := Lib.hid hr; clear hr
  go_enter Tryd.func4, Tryd.ntmps4
  go_wp2_with fail
  refine (awake4 (HPL.out.after (by repeat (first | exact Below.refl _ _ | assumption | refine Below.drew ?_ | refine below_drewN ?_ _ | refine Below.alloc ?_ (by first | (simp; done) | omega | (simp; omega)) _ | refine Below.setCell ?_ (by first | (simp; done) | omega | (simp; omega)) _)))).mono ?_
  rintro e w1 ⟨rfl, hb1⟩
  by_cases hbig : 2000 < m
  · go_wp2_with fail
    go_ret
    exact ⟨rfl, hb1⟩
  · go_wp2_with fail
    refine (oGet_any (HS.out.after hb1) (by omega) (HPL.out.after hb1) r HR.out).mono ?_
    rintro e w2 ⟨A1, n1, c1, A2, n2, c2, A3, n3, c3, rfl, hx2, hs3, hb2⟩
    have hb02 := seqB hb1 hb2
    have HX2 := Lib.hid hx2; clear hx2
    have HS3 := Lib.hid hs3; clear hs3
    go_wp2_with fail
    refine (rget4_any 20 (a := 0) ((HS.out.after hb02).after (by repeat (first | exact Below.refl _ _ | assumption | refine Below.drew ?_ | refine below_drewN ?_ _ | refine Below.alloc ?_ (by first | (simp; done) | omega | (simp; omega)) _ | refine Below.setCell ?_ (by first | (simp; done) | omega | (simp; omega)) _))) (by omega) (by omega) (by omega) (by omega) r (by rw [List.drop_zero]; exact HR.out)).mono ?_
    rintro e w3 ⟨B1, m1, d1, B2, m2, d2, q, rfl, hx3, hq3, hb3⟩
    have HX3 := Lib.hid hx3; clear hx3
    have HQ3 := Lib.hid hq3; clear hq3
    have p0 : w3.cell? ⟨w2.heap.size, 0, none⟩ = some (.int .u16 ((rval Opt.none r).id : Int)) := kcell hb3 (by go_simp)
    have p1 : w3.cell? ⟨w2.heap.size, 1, none⟩ = some (.string (str (rval Opt.none r).space)) := kcell hb3 (by go_simp)
    have p2 : w3.cell? ⟨w2.heap.size, 2, none⟩ = some (.string (str (rval Opt.none r).name)) := kcell hb3 (by go_simp)
    have p3 : w3.cell? ⟨w2.heap.size, 3, none⟩ = some (.slice A1 n1 c1) := kcell hb3 (by go_simp)
    have p4 : w3.cell? ⟨w2.heap.size, 4, none⟩ = some (.slice A2 n2 c2) := kcell hb3 (by go_simp)
    replace hb3 : Below w2.heap.size w2 w3 := Below.trans (by repeat (first | exact Below.refl _ _ | assumption | refine Below.drew ?_ | refine below_drewN ?_ _ | refine Below.alloc ?_ (by first | (simp; done) | omega | (simp; omega)) _ | refine Below.setCell ?_ (by first | (simp; done) | omega | (simp; omega)) _)) (hb3.mono (by simp))
    have hb03 := seqB hb02 hb3
    have hz3 : w2.heap.size < w3.heap.size := by have := World.block_lt_of_cell? w3 _ p0; exact this
    go_wp2_with fail
    refine (same4_any 20 ((HX2.out.after hb3).after (by repeat (first | exact Below.refl _ _ | assumption | refine Below.drew ?_ | refine below_drewN ?_ _ | refine Below.alloc ?_ (by first | (simp; done) | omega | (simp; omega)) _ | refine Below.setCell ?_ (by first | (simp; done) | omega | (simp; omega)) _))) (HX3.out.after (by repeat (first | exact Below.refl _ _ | assumption | refine Below.drew ?_ | refine below_drewN ?_ _ | refine Below.alloc ?_ (by first | (simp; done) | omega | (simp; omega)) _ | refine Below.setCell ?_ (by first | (simp; done) | omega | (simp; omega)) _)))).mono ?_
    rintro e w4 ⟨rfl, hb4⟩
    clear p0 p1 p2 p3 p4
    replace hb4 : Below w3.heap.size w3 w4 := Below.trans (by repeat (first | exact Below.refl _ _ | assumption | refine Below.drew ?_ | refine below_drewN ?_ _ | refine Below.alloc ?_ (by first | (simp; done) | omega | (simp; omega)) _ | refine Below.setCell ?_ (by first | (simp; done) | omega | (simp; omega)) _)) (hb4.mono (by simp))
    have hb04 := seqB hb03 hb4
    cases r with
    | error er =>
      have hne := getO_ne HR.out
      have he2 : (er == 0) = false := by simpa using hne
      have he3 : (er != 0) = true := by simpa using hne
      have hl3 := HS3.out.len
      simp only [rrest_error, List.length_nil] at hl3
      subst hl3
      simp only [rerr_error]
      go_wp2_with fail
      go_quiet (fail)
      go_wp2_with fail
      go_ret
      exact ⟨by simp, hb04.trans (by repeat (first | exact Below.refl _ _ | assumption | refine Below.drew ?_ | refine below_drewN ?_ _ | refine Below.alloc ?_ (by simp) _ | refine Below.setCell ?_ (by simp) _))⟩
    | ok p =>
      have hqm : q ≤ m := by have := HQ3.out.le; have := HLEN.out; omega
      have hqd := HQ3.out.drop
      simp only [rerr_ok]
      have hs4 := HS3.out.after (seqB hb3 hb4)
      have hs0 := (HS.out.after hb04).cut q hqm
      rw [hqd] at hs0
      simp only [rrest_ok] at hs4
      have hcut := run_cut A m c q .i64 hqm
      have hcv := fun k => conv_sl (hs4.after (below_self_drewN _ w4 k))
      have hcv2 := fun k => conv_sl (hs0.after (below_self_drewN _ w4 k))
      clear hqd hs4 hs0
      go_wp2_with fail
      go_quiet (fail)
      go_wp2_with fail
      go_ret
      exact ⟨by simp, hb04.trans (by repeat (first | exact Below.refl _ _ | assumption | refine Below.drew ?_ | refine below_drewN ?_ _ | refine Below.alloc ?_ (by simp) _ | refine Below.setCell ?_ (by simp) _))⟩
end Go.Proofs.Sb
