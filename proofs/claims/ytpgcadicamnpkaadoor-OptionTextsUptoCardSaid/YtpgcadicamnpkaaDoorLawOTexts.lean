/- The walk over signalboxlaw04.OptionTexts: true at every input whose texts are not too long, and nothing that was there has turned. Conditions: the table of names reads as it was laid. -/
import Derived.Test.YtpgcadicamnpkaaDoorAwake4
import Derived.Test.YtpgcadicamnpkaaDoorOptf
import Derived.Test.YtpgcadicamnpkaaDoorOptl
set_option linter.unusedVariables false
set_option linter.unusedSimpArgs false
namespace Go.Proofs.Sb
open Go.RowKit _root_.Sb

theorem tell_lim {S : Nat → Prop} {W : World} {M d : Nat} {A1 : Option Addr} {n1 c1 : Nat} {A2 : Option Addr} {n2 c2 : Nat} {o : Opt} (h : OptR S W M d A1 n1 c1 A2 n2 c2 o) (hM : M ≤ 1048576) (hn : nD (d + 1) o ≤ 500) : (tellD (d + 1) o).length ≤ 1048606000 := by
  have h1 := tellD_len M (d + 1) o h.to.cap
  have h2 : nD (d + 1) o * (2 * M + 30) ≤ 500 * (2 * 1048576 + 30) := Nat.mul_le_mul hn (by omega)
  omega
theorem textW_len {d : Nat} {o : Opt} {s : B} (h : textW d o = .ok s) : s = tellD d o := by
  unfold textW at h
  split at h
  · cases h
  · split at h
    · cases h
    · injection h with h; exact h.symm
set_option maxHeartbeats 4000000 in
set_option maxRecDepth 100000 in
theorem optionTexts_any {d : Nat} {S : Nat → Prop} {M : Nat} {A1 : Option Addr} {n1 c1 : Nat} {A2 : Option Addr} {n2 c2 : Nat} {a : Opt} {B1 : Option Addr} {m1 d1 : Nat} {B2 : Option Addr} {m2 d2 : Nat} {b : Opt} {w : World} (ha : OptR S w M d A1 n1 c1 A2 n2 c2 a) (hb : OptR S w M d B1 m1 d1 B2 m2 d2 b) (hM : M ≤ 1048576) (hpl : Pl w) :
    Calls Tryd.prog 8 #[optV a A1 n1 c1 A2 n2 c2, optV b B1 m1 d1 B2 m2 d2] w fun e w' => e = .returned (.bool true) ∧ Below w.heap.size w w' := by
  have HA := Lib.hid ha; clear ha
  have HB := Lib.hid hb; clear hb
  have HPL := Lib.hid hpl; clear hpl
  have HM := Lib.hid hM; clear hM
  obtain ⟨fa, hfa⟩ : ∃ fv, fewD (d + 1) a 0 = fv := ⟨_, rfl⟩
  have HFA := Lib.hid hfa; clear hfa
  obtain ⟨fb, hfb⟩ : ∃ fv, fewD (d + 1) b 0 = fv := ⟨_, rfl⟩
  have HFB := Lib.hid hfb; clear hfb
  obtain ⟨ra, hra⟩ : ∃ r, textW (d + 1) a = r := ⟨_, rfl⟩
  obtain ⟨rb, hrb⟩ : ∃ r, textW (d + 1) b = r := ⟨_, rfl⟩
  obtain ⟨rl, hrl⟩ : ∃ r, textW (d + 1 + 1) (o1 32 a) = r := ⟨_, rfl⟩
  obtain ⟨ru, hru⟩ : ∃ r, textW (d + 1 + 1) (o1 34 b) = r := ⟨_, rfl⟩
  obtain ⟨rm, hrm⟩ : ∃ r, textW (d + 1 + 1) (o2 33 a b) = r := ⟨_, rfl⟩
  obtain ⟨rp, hrp⟩ : ∃ r, textW (d + 1 + 1) (o2 49 a b) = r := ⟨_, rfl⟩
  have law : OT ra rb rl ru rm rp := by rw [← hra, ← hrb, ← hrl, ← hru, ← hrm, ← hrp]; exact otexts_law (d + 1) a b
  have LAW := Lib.hid law; clear law
  have HRA := Lib.hid hra; clear hra
  have HRB := Lib.hid hrb; clear hrb
  have HRL := Lib.hid hrl; clear hrl
  have HRU := Lib.hid hru; clear hru
  have HRM := Lib.hid hrm; clear hrm
  have HRP := Lib.hid hrp; clear hrp
  go_enter Tryd.func8, Tryd.ntmps8
  go_wp2_with fail
  refine (awake4 (HPL.out.after (by repeat (first | exact Below.refl _ _ | assumption | refine Below.drew ?_ | refine below_drewN ?_ _ | refine Below.alloc ?_ (by first | (simp; done) | omega | (simp; omega)) _ | refine Below.setCell ?_ (by first | (simp; done) | omega | (simp; omega)) _)))).mono ?_
  rintro e w1 ⟨rfl, hb1⟩
  have p0 : w1.cell? ⟨w.heap.size, 0, none⟩ = some (.int .u16 (a.id : Int)) := kcell hb1 (by go_simp)
  have p1 : w1.cell? ⟨w.heap.size, 1, none⟩ = some (.string (str a.space)) := kcell hb1 (by go_simp)
  have p2 : w1.cell? ⟨w.heap.size, 2, none⟩ = some (.string (str a.name)) := kcell hb1 (by go_simp)
  have p3 : w1.cell? ⟨w.heap.size, 3, none⟩ = some (.slice A1 n1 c1) := kcell hb1 (by go_simp)
  have p4 : w1.cell? ⟨w.heap.size, 4, none⟩ = some (.slice A2 n2 c2) := kcell hb1 (by go_simp)
  have q0 : w1.cell? ⟨w.heap.size + 1, 0, none⟩ = some (.int .u16 (b.id : Int)) := kcell hb1 (by go_simp)
  have q1 : w1.cell? ⟨w.heap.size + 1, 1, none⟩ = some (.string (str b.space)) := kcell hb1 (by go_simp)
  have q2 : w1.cell? ⟨w.heap.size + 1, 2, none⟩ = some (.string (str b.name)) := kcell hb1 (by go_simp)
  have q3 : w1.cell? ⟨w.heap.size + 1, 3, none⟩ = some (.slice B1 m1 d1) := kcell hb1 (by go_simp)
  have q4 : w1.cell? ⟨w.heap.size + 1, 4, none⟩ = some (.slice B2 m2 d2) := kcell hb1 (by go_simp)
  replace hb1 : Below w.heap.size w w1 := Below.trans (by repeat (first | exact Below.refl _ _ | assumption | refine Below.drew ?_ | refine below_drewN ?_ _ | refine Below.alloc ?_ (by first | (simp; done) | omega | (simp; omega)) _ | refine Below.setCell ?_ (by first | (simp; done) | omega | (simp; omega)) _)) (hb1.mono (by simp; omega))
  go_wp2_with fail
  refine (few_any d (deep := 0) (HA.out.after hb1) (by omega)).mono ?_
  rintro e w2 ⟨rfl, hb2⟩
  rw [HFA.out]
  replace p0 := kcell hb2 p0
  replace p1 := kcell hb2 p1
  replace p2 := kcell hb2 p2
  replace p3 := kcell hb2 p3
  replace p4 := kcell hb2 p4
  replace q0 := kcell hb2 q0
  replace q1 := kcell hb2 q1
  replace q2 := kcell hb2 q2
  replace q3 := kcell hb2 q3
  replace q4 := kcell hb2 q4
  have hb02 := seqB hb1 hb2
  go_wp2_with fail
  refine (few_any d (deep := 0) (HB.out.after hb02) (by omega)).mono ?_
  rintro e w3 ⟨rfl, hb3⟩
  rw [HFB.out]
  replace p0 := kcell hb3 p0
  replace p1 := kcell hb3 p1
  replace p2 := kcell hb3 p2
  replace p3 := kcell hb3 p3
  replace p4 := kcell hb3 p4
  replace q0 := kcell hb3 q0
  replace q1 := kcell hb3 q1
  replace q2 := kcell hb3 q2
  replace q3 := kcell hb3 q3
  replace q4 := kcell hb3 q4
  have hb03 := seqB hb02 hb3
  cases fa with
  | false =>
    go_wp2_with fail
    go_ret
    exact ⟨rfl, hb03⟩
  | true =>
  cases fb with
  | false =>
    go_wp2_with fail
    go_ret
    exact ⟨rfl, hb03⟩
  | true =>
  have hna := (few_size HFA.out).2
  have hnb := (few_size HFB.out).2
  have hz3 : w.heap.size + 1 < w3.heap.size := by have := World.block_lt_of_cell? w3 _ q0; exact this
  have hy3 : w.heap.size < w3.heap.size := by omega
  go_wp2_with fail
  refine (oText_any (HA.out.after hb03) (HPL.out.after hb03) (by omega) (by have := tell_lim HA.out HM.out (by omega); omega) ra HRA.out).mono ?_
  rintro e w4 ⟨rfl, hb4⟩
  replace p0 := kcell hb4 p0
  replace p1 := kcell hb4 p1
  replace p2 := kcell hb4 p2
  replace p3 := kcell hb4 p3
  replace p4 := kcell hb4 p4
  replace q0 := kcell hb4 q0
  replace q1 := kcell hb4 q1
  replace q2 := kcell hb4 q2
  replace q3 := kcell hb4 q3
  replace q4 := kcell hb4 q4
  have hb04 := seqB hb03 hb4
  have hz4 : w.heap.size + 1 < w4.heap.size := by have := World.block_lt_of_cell? w4 _ q0; exact this
  have hy4 : w.heap.size < w4.heap.size := by omega
  go_wp2_with fail
  refine (oText_any (HB.out.after hb04) (HPL.out.after hb04) (by omega) (by have := tell_lim HB.out HM.out (by omega); omega) rb HRB.out).mono ?_
  rintro e w5 ⟨rfl, hb5⟩
  replace p0 := kcell hb5 p0
  replace p1 := kcell hb5 p1
  replace p2 := kcell hb5 p2
  replace p3 := kcell hb5 p3
  replace p4 := kcell hb5 p4
  replace q0 := kcell hb5 q0
  replace q1 := kcell hb5 q1
  replace q2 := kcell hb5 q2
  replace q3 := kcell hb5 q3
  replace q4 := kcell hb5 q4
  have hb05 := seqB hb04 hb5
  have hz5 : w.heap.size + 1 < w5.heap.size := by have := World.block_lt_of_cell? w5 _ q0; exact this
  have hy5 : w.heap.size < w5.heap.size := by omega
  have n1' : nD (d + 1 + 1) (o1 32 a) ≤ 500 := by simp [nD, o1] at *; omega
  have n2' : nD (d + 1 + 1) (o1 34 b) ≤ 500 := by simp [nD, o1] at *; omega
  have n3' : nD (d + 1 + 1) (o2 33 a b) ≤ 500 := by simp [nD, o2] at *; omega
  have n4' : nD (d + 1 + 1) (o2 49 a b) ≤ 500 := by simp [nD, o2] at *; omega
  go_wp2_with fail
  refine (oText_any (o := o1 32 a) (M := M) (o1_R (w := w5) (e := 26) (by decide) rfl (HA.out.after hb05) (by repeat (first | exact Below.refl _ _ | assumption | refine Below.drew ?_ | refine below_drewN ?_ _ | refine Below.alloc ?_ (by first | (simp; done) | omega | (simp; omega)) _ | refine Below.setCell ?_ (by first | (simp; done) | omega | (simp; omega)) _))) ((HPL.out.after hb05).after (by repeat (first | exact Below.refl _ _ | assumption | refine Below.drew ?_ | refine below_drewN ?_ _ | refine Below.alloc ?_ (by first | (simp; done) | omega | (simp; omega)) _ | refine Below.setCell ?_ (by first | (simp; done) | omega | (simp; omega)) _))) (by omega) (by have := tell_lim (o1_R (w := w5) (e := 26) (by decide) rfl (HA.out.after hb05) (by repeat (first | exact Below.refl _ _ | assumption | refine Below.drew ?_ | refine below_drewN ?_ _ | refine Below.alloc ?_ (by first | (simp; done) | omega | (simp; omega)) _ | refine Below.setCell ?_ (by first | (simp; done) | omega | (simp; omega)) _))) HM.out n1'; omega) rl HRL.out).mono ?_
  rintro e w6 ⟨rfl, hb6⟩
  replace p0 := kcell hb6 (show (w5.alloc _).cell? ⟨w.heap.size, 0, none⟩ = some (.int .u16 (a.id : Int)) by go_simp)
  replace p1 := kcell hb6 (show (w5.alloc _).cell? ⟨w.heap.size, 1, none⟩ = some (.string (str a.space)) by go_simp)
  replace p2 := kcell hb6 (show (w5.alloc _).cell? ⟨w.heap.size, 2, none⟩ = some (.string (str a.name)) by go_simp)
  replace p3 := kcell hb6 (show (w5.alloc _).cell? ⟨w.heap.size, 3, none⟩ = some (.slice A1 n1 c1) by go_simp)
  replace p4 := kcell hb6 (show (w5.alloc _).cell? ⟨w.heap.size, 4, none⟩ = some (.slice A2 n2 c2) by go_simp)
  replace q0 := kcell hb6 (show (w5.alloc _).cell? ⟨w.heap.size + 1, 0, none⟩ = some (.int .u16 (b.id : Int)) by go_simp)
  replace q1 := kcell hb6 (show (w5.alloc _).cell? ⟨w.heap.size + 1, 1, none⟩ = some (.string (str b.space)) by go_simp)
  replace q2 := kcell hb6 (show (w5.alloc _).cell? ⟨w.heap.size + 1, 2, none⟩ = some (.string (str b.name)) by go_simp)
  replace q3 := kcell hb6 (show (w5.alloc _).cell? ⟨w.heap.size + 1, 3, none⟩ = some (.slice B1 m1 d1) by go_simp)
  replace q4 := kcell hb6 (show (w5.alloc _).cell? ⟨w.heap.size + 1, 4, none⟩ = some (.slice B2 m2 d2) by go_simp)
  replace hb6 : Below w5.heap.size w5 w6 := Below.trans (by repeat (first | exact Below.refl _ _ | assumption | refine Below.drew ?_ | refine below_drewN ?_ _ | refine Below.alloc ?_ (by first | (simp; done) | omega | (simp; omega)) _ | refine Below.setCell ?_ (by first | (simp; done) | omega | (simp; omega)) _)) (hb6.mono (by simp))
  have hb06 := seqB hb05 hb6
  have hz6 : w.heap.size + 1 < w6.heap.size := by have := World.block_lt_of_cell? w6 _ q0; exact this
  have hy6 : w.heap.size < w6.heap.size := by omega
  go_wp2_with fail
  refine (oText_any (o := o1 34 b) (M := M) (o1_R (w := w6) (e := 26) (by decide) rfl (HB.out.after hb06) (by repeat (first | exact Below.refl _ _ | assumption | refine Below.drew ?_ | refine below_drewN ?_ _ | refine Below.alloc ?_ (by first | (simp; done) | omega | (simp; omega)) _ | refine Below.setCell ?_ (by first | (simp; done) | omega | (simp; omega)) _))) ((HPL.out.after hb06).after (by repeat (first | exact Below.refl _ _ | assumption | refine Below.drew ?_ | refine below_drewN ?_ _ | refine Below.alloc ?_ (by first | (simp; done) | omega | (simp; omega)) _ | refine Below.setCell ?_ (by first | (simp; done) | omega | (simp; omega)) _))) (by omega) (by have := tell_lim (o1_R (w := w6) (e := 26) (by decide) rfl (HB.out.after hb06) (by repeat (first | exact Below.refl _ _ | assumption | refine Below.drew ?_ | refine below_drewN ?_ _ | refine Below.alloc ?_ (by first | (simp; done) | omega | (simp; omega)) _ | refine Below.setCell ?_ (by first | (simp; done) | omega | (simp; omega)) _))) HM.out n2'; omega) ru HRU.out).mono ?_
  rintro e w7 ⟨rfl, hb7⟩
  replace p0 := kcell hb7 (show (w6.alloc _).cell? ⟨w.heap.size, 0, none⟩ = some (.int .u16 (a.id : Int)) by go_simp)
  replace p1 := kcell hb7 (show (w6.alloc _).cell? ⟨w.heap.size, 1, none⟩ = some (.string (str a.space)) by go_simp)
  replace p2 := kcell hb7 (show (w6.alloc _).cell? ⟨w.heap.size, 2, none⟩ = some (.string (str a.name)) by go_simp)
  replace p3 := kcell hb7 (show (w6.alloc _).cell? ⟨w.heap.size, 3, none⟩ = some (.slice A1 n1 c1) by go_simp)
  replace p4 := kcell hb7 (show (w6.alloc _).cell? ⟨w.heap.size, 4, none⟩ = some (.slice A2 n2 c2) by go_simp)
  replace q0 := kcell hb7 (show (w6.alloc _).cell? ⟨w.heap.size + 1, 0, none⟩ = some (.int .u16 (b.id : Int)) by go_simp)
  replace q1 := kcell hb7 (show (w6.alloc _).cell? ⟨w.heap.size + 1, 1, none⟩ = some (.string (str b.space)) by go_simp)
  replace q2 := kcell hb7 (show (w6.alloc _).cell? ⟨w.heap.size + 1, 2, none⟩ = some (.string (str b.name)) by go_simp)
  replace q3 := kcell hb7 (show (w6.alloc _).cell? ⟨w.heap.size + 1, 3, none⟩ = some (.slice B1 m1 d1) by go_simp)
  replace q4 := kcell hb7 (show (w6.alloc _).cell? ⟨w.heap.size + 1, 4, none⟩ = some (.slice B2 m2 d2) by go_simp)
  replace hb7 : Below w6.heap.size w6 w7 := Below.trans (by repeat (first | exact Below.refl _ _ | assumption | refine Below.drew ?_ | refine below_drewN ?_ _ | refine Below.alloc ?_ (by first | (simp; done) | omega | (simp; omega)) _ | refine Below.setCell ?_ (by first | (simp; done) | omega | (simp; omega)) _)) (hb7.mono (by simp))
  have hb07 := seqB hb06 hb7
  have hz7 : w.heap.size + 1 < w7.heap.size := by have := World.block_lt_of_cell? w7 _ q0; exact this
  have hy7 : w.heap.size < w7.heap.size := by omega
  go_wp2_with fail
  refine (oText_any (o := o2 33 a b) (M := M) (o2_R (w := w7) (e := 26) (by decide) rfl (HA.out.after hb07) (HB.out.after hb07) (by repeat (first | exact Below.refl _ _ | assumption | refine Below.drew ?_ | refine below_drewN ?_ _ | refine Below.alloc ?_ (by first | (simp; done) | omega | (simp; omega)) _ | refine Below.setCell ?_ (by first | (simp; done) | omega | (simp; omega)) _))) ((HPL.out.after hb07).after (by repeat (first | exact Below.refl _ _ | assumption | refine Below.drew ?_ | refine below_drewN ?_ _ | refine Below.alloc ?_ (by first | (simp; done) | omega | (simp; omega)) _ | refine Below.setCell ?_ (by first | (simp; done) | omega | (simp; omega)) _))) (by omega) (by have := tell_lim (o2_R (w := w7) (e := 26) (by decide) rfl (HA.out.after hb07) (HB.out.after hb07) (by repeat (first | exact Below.refl _ _ | assumption | refine Below.drew ?_ | refine below_drewN ?_ _ | refine Below.alloc ?_ (by first | (simp; done) | omega | (simp; omega)) _ | refine Below.setCell ?_ (by first | (simp; done) | omega | (simp; omega)) _))) HM.out n3'; omega) rm HRM.out).mono ?_
  rintro e w8 ⟨rfl, hb8⟩
  replace p0 := kcell hb8 (show (w7.alloc _).cell? ⟨w.heap.size, 0, none⟩ = some (.int .u16 (a.id : Int)) by go_simp)
  replace p1 := kcell hb8 (show (w7.alloc _).cell? ⟨w.heap.size, 1, none⟩ = some (.string (str a.space)) by go_simp)
  replace p2 := kcell hb8 (show (w7.alloc _).cell? ⟨w.heap.size, 2, none⟩ = some (.string (str a.name)) by go_simp)
  replace p3 := kcell hb8 (show (w7.alloc _).cell? ⟨w.heap.size, 3, none⟩ = some (.slice A1 n1 c1) by go_simp)
  replace p4 := kcell hb8 (show (w7.alloc _).cell? ⟨w.heap.size, 4, none⟩ = some (.slice A2 n2 c2) by go_simp)
  replace q0 := kcell hb8 (show (w7.alloc _).cell? ⟨w.heap.size + 1, 0, none⟩ = some (.int .u16 (b.id : Int)) by go_simp)
  replace q1 := kcell hb8 (show (w7.alloc _).cell? ⟨w.heap.size + 1, 1, none⟩ = some (.string (str b.space)) by go_simp)
  replace q2 := kcell hb8 (show (w7.alloc _).cell? ⟨w.heap.size + 1, 2, none⟩ = some (.string (str b.name)) by go_simp)
  replace q3 := kcell hb8 (show (w7.alloc _).cell? ⟨w.heap.size + 1, 3, none⟩ = some (.slice B1 m1 d1) by go_simp)
  replace q4 := kcell hb8 (show (w7.alloc _).cell? ⟨w.heap.size + 1, 4, none⟩ = some (.slice B2 m2 d2) by go_simp)
  replace hb8 : Below w7.heap.size w7 w8 := Below.trans (by repeat (first | exact Below.refl _ _ | assumption | refine Below.drew ?_ | refine below_drewN ?_ _ | refine Below.alloc ?_ (by first | (simp; done) | omega | (simp; omega)) _ | refine Below.setCell ?_ (by first | (simp; done) | omega | (simp; omega)) _)) (hb8.mono (by simp))
  have hb08 := seqB hb07 hb8
  have hz8 : w.heap.size + 1 < w8.heap.size := by have := World.block_lt_of_cell? w8 _ q0; exact this
  have hy8 : w.heap.size < w8.heap.size := by omega
  go_wp2_with fail
  refine (oText_any (o := o2 49 a b) (M := M) (o2_R (w := w8) (e := 26) (by decide) rfl (HA.out.after hb08) (HB.out.after hb08) (by repeat (first | exact Below.refl _ _ | assumption | refine Below.drew ?_ | refine below_drewN ?_ _ | refine Below.alloc ?_ (by first | (simp; done) | omega | (simp; omega)) _ | refine Below.setCell ?_ (by first | (simp; done) | omega | (simp; omega)) _))) ((HPL.out.after hb08).after (by repeat (first | exact Below.refl _ _ | assumption | refine Below.drew ?_ | refine below_drewN ?_ _ | refine Below.alloc ?_ (by first | (simp; done) | omega | (simp; omega)) _ | refine Below.setCell ?_ (by first | (simp; done) | omega | (simp; omega)) _))) (by omega) (by have := tell_lim (o2_R (w := w8) (e := 26) (by decide) rfl (HA.out.after hb08) (HB.out.after hb08) (by repeat (first | exact Below.refl _ _ | assumption | refine Below.drew ?_ | refine below_drewN ?_ _ | refine Below.alloc ?_ (by first | (simp; done) | omega | (simp; omega)) _ | refine Below.setCell ?_ (by first | (simp; done) | omega | (simp; omega)) _))) HM.out n4'; omega) rp HRP.out).mono ?_
  rintro e w9 ⟨rfl, hb9⟩
  replace p0 := kcell hb9 (show (w8.alloc _).cell? ⟨w.heap.size, 0, none⟩ = some (.int .u16 (a.id : Int)) by go_simp)
  replace p1 := kcell hb9 (show (w8.alloc _).cell? ⟨w.heap.size, 1, none⟩ = some (.string (str a.space)) by go_simp)
  replace p2 := kcell hb9 (show (w8.alloc _).cell? ⟨w.heap.size, 2, none⟩ = some (.string (str a.name)) by go_simp)
  replace p3 := kcell hb9 (show (w8.alloc _).cell? ⟨w.heap.size, 3, none⟩ = some (.slice A1 n1 c1) by go_simp)
  replace p4 := kcell hb9 (show (w8.alloc _).cell? ⟨w.heap.size, 4, none⟩ = some (.slice A2 n2 c2) by go_simp)
  replace q0 := kcell hb9 (show (w8.alloc _).cell? ⟨w.heap.size + 1, 0, none⟩ = some (.int .u16 (b.id : Int)) by go_simp)
  replace q1 := kcell hb9 (show (w8.alloc _).cell? ⟨w.heap.size + 1, 1, none⟩ = some (.string (str b.space)) by go_simp)
  replace q2 := kcell hb9 (show (w8.alloc _).cell? ⟨w.heap.size + 1, 2, none⟩ = some (.string (str b.name)) by go_simp)
  replace q3 := kcell hb9 (show (w8.alloc _).cell? ⟨w.heap.size + 1, 3, none⟩ = some (.slice B1 m1 d1) by go_simp)
  replace q4 := kcell hb9 (show (w8.alloc _).cell? ⟨w.heap.size + 1, 4, none⟩ = some (.slice B2 m2 d2) by go_simp)
  replace hb9 : Below w8.heap.size w8 w9 := Below.trans (by repeat (first | exact Below.refl _ _ | assumption | refine Below.drew ?_ | refine below_drewN ?_ _ | refine Below.alloc ?_ (by first | (simp; done) | omega | (simp; omega)) _ | refine Below.setCell ?_ (by first | (simp; done) | omega | (simp; omega)) _)) (hb9.mono (by simp))
  have hb09 := seqB hb08 hb9
  have hz9 : w.heap.size + 1 < w9.heap.size := by have := World.block_lt_of_cell? w9 _ q0; exact this
  have hy9 : w.heap.size < w9.heap.size := by omega
  clear p0 p1 p2 p3 p4 q0 q1 q2 q3 q4 n1' n2' n3' n4' HRL HRU HRM HRP
  have law := LAW.out
  clear LAW
  rcases law with ⟨h1, h2, h3⟩ | ⟨h1, h2, h3, h4, h5⟩ | ⟨s, t, h1, h2, h3, h4, h5, h6⟩
  · clear HRA HRB
    generalize werr ra = ea at *
    generalize werr rb = eb at *
    generalize werr rl = el at *
    generalize werr ru = eu at *
    generalize werr rm = em at *
    generalize werr rp = ep at *
    generalize wval ra = sa at *
    generalize wval rb = sb at *
    generalize wval rl = sl at *
    generalize wval ru = su at *
    generalize wval rm = sm at *
    generalize wval rp = sp at *
    by_cases h4 : ea = 0
    · replace h1 : eb ≠ 0 := by rcases h1 with h | h
                                · exact absurd h4 h
                                · exact h
      subst h4
      go_wp2_with fail
      go_ret
      exact ⟨by simp [h2, h3], hb09⟩
    · clear h1
      go_wp2_with fail
      go_ret
      exact ⟨by simp [h2, h3], hb09⟩
  · clear HRA HRB
    have e1 : werr ra = 0 := by rw [h1]; rfl
    have e2 : werr rb = 0 := by rw [h2]; rfl
    clear h1 h2
    generalize werr ra = ea at *
    generalize werr rb = eb at *
    generalize werr rl = el at *
    generalize werr ru = eu at *
    generalize werr rm = em at *
    generalize werr rp = ep at *
    generalize wval ra = sa at *
    generalize wval rb = sb at *
    generalize wval rl = sl at *
    generalize wval ru = su at *
    generalize wval rm = sm at *
    generalize wval rp = sp at *
    subst e1 e2 h4 h5
    by_cases h4 : el = 13
    · subst h4
      go_wp2_with fail
      go_ret
      exact ⟨by simp, hb09⟩
    · replace h3 : eu = 13 := by rcases h3 with h | h
                                 · exact absurd h h4
                                 · exact h
      subst h3
      go_wp2_with fail
      go_ret
      exact ⟨by simp, hb09⟩
  · have ls : s.length ≤ 1048606000 := by
      rw [textW_len (HRA.out.trans h1)]; exact tell_lim HA.out HM.out (by omega)
    have lt : t.length ≤ 1048606000 := by
      rw [textW_len (HRB.out.trans h2)]; exact tell_lim HB.out HM.out (by omega)
    subst h1 h2 h3 h4 h5 h6
    simp only [wval_ok, werr_ok]
    have la : ∀ w, (Op.stringOp .add (⟨#[108, 105, 115, 116, 60]⟩ : ByteArray) (str s)).run Tryd.prog w = .ok (.string (str (108 :: 105 :: 115 :: 116 :: 60 :: s))) w := by
      intro w
      have e : 108 :: 105 :: 115 :: 116 :: 60 :: s = ([108, 105, 115, 116, 60]) ++ (s) := by simp
      rw [e]
      exact add_str3 ([108, 105, 115, 116, 60]) (s) (by simp only [List.length_append, List.length_cons, List.length_nil]; omega) w
    have lb : ∀ w, (Op.stringOp .add (str (108 :: 105 :: 115 :: 116 :: 60 :: s)) (⟨#[62]⟩ : ByteArray)).run Tryd.prog w = .ok (.string (str (108 :: 105 :: 115 :: 116 :: 60 :: (s ++ [62])))) w := by
      intro w
      have e : 108 :: 105 :: 115 :: 116 :: 60 :: (s ++ [62]) = (108 :: 105 :: 115 :: 116 :: 60 :: s) ++ ([62]) := by simp
      rw [e]
      exact add_str3 (108 :: 105 :: 115 :: 116 :: 60 :: s) ([62]) (by simp only [List.length_append, List.length_cons, List.length_nil]; omega) w
    have ua : ∀ w, (Op.stringOp .add (⟨#[115, 101, 116, 60]⟩ : ByteArray) (str t)).run Tryd.prog w = .ok (.string (str (115 :: 101 :: 116 :: 60 :: t))) w := by
      intro w
      have e : 115 :: 101 :: 116 :: 60 :: t = ([115, 101, 116, 60]) ++ (t) := by simp
      rw [e]
      exact add_str3 ([115, 101, 116, 60]) (t) (by simp only [List.length_append, List.length_cons, List.length_nil]; omega) w
    have ub : ∀ w, (Op.stringOp .add (str (115 :: 101 :: 116 :: 60 :: t)) (⟨#[62]⟩ : ByteArray)).run Tryd.prog w = .ok (.string (str (115 :: 101 :: 116 :: 60 :: (t ++ [62])))) w := by
      intro w
      have e : 115 :: 101 :: 116 :: 60 :: (t ++ [62]) = (115 :: 101 :: 116 :: 60 :: t) ++ ([62]) := by simp
      rw [e]
      exact add_str3 (115 :: 101 :: 116 :: 60 :: t) ([62]) (by simp only [List.length_append, List.length_cons, List.length_nil]; omega) w
    have ma : ∀ w, (Op.stringOp .add (⟨#[109, 97, 112, 60]⟩ : ByteArray) (str s)).run Tryd.prog w = .ok (.string (str (109 :: 97 :: 112 :: 60 :: s))) w := by
      intro w
      have e : 109 :: 97 :: 112 :: 60 :: s = ([109, 97, 112, 60]) ++ (s) := by simp
      rw [e]
      exact add_str3 ([109, 97, 112, 60]) (s) (by simp only [List.length_append, List.length_cons, List.length_nil]; omega) w
    have mb : ∀ w, (Op.stringOp .add (str (109 :: 97 :: 112 :: 60 :: s)) (⟨#[44, 32]⟩ : ByteArray)).run Tryd.prog w = .ok (.string (str (109 :: 97 :: 112 :: 60 :: (s ++ [44, 32])))) w := by
      intro w
      have e : 109 :: 97 :: 112 :: 60 :: (s ++ [44, 32]) = (109 :: 97 :: 112 :: 60 :: s) ++ ([44, 32]) := by simp
      rw [e]
      exact add_str3 (109 :: 97 :: 112 :: 60 :: s) ([44, 32]) (by simp only [List.length_append, List.length_cons, List.length_nil]; omega) w
    have mc : ∀ w, (Op.stringOp .add (str (109 :: 97 :: 112 :: 60 :: (s ++ [44, 32]))) (str t)).run Tryd.prog w = .ok (.string (str (109 :: 97 :: 112 :: 60 :: (s ++ 44 :: 32 :: t)))) w := by
      intro w
      have e : 109 :: 97 :: 112 :: 60 :: (s ++ 44 :: 32 :: t) = (109 :: 97 :: 112 :: 60 :: (s ++ [44, 32])) ++ (t) := by simp
      rw [e]
      exact add_str3 (109 :: 97 :: 112 :: 60 :: (s ++ [44, 32])) (t) (by simp only [List.length_append, List.length_cons, List.length_nil]; omega) w
    have md : ∀ w, (Op.stringOp .add (str (109 :: 97 :: 112 :: 60 :: (s ++ 44 :: 32 :: t))) (⟨#[62]⟩ : ByteArray)).run Tryd.prog w = .ok (.string (str (109 :: 97 :: 112 :: 60 :: (s ++ 44 :: 32 :: (t ++ [62]))))) w := by
      intro w
      have e : 109 :: 97 :: 112 :: 60 :: (s ++ 44 :: 32 :: (t ++ [62])) = (109 :: 97 :: 112 :: 60 :: (s ++ 44 :: 32 :: t)) ++ ([62]) := by simp
      rw [e]
      exact add_str3 (109 :: 97 :: 112 :: 60 :: (s ++ 44 :: 32 :: t)) ([62]) (by simp only [List.length_append, List.length_cons, List.length_nil]; omega) w
    have pa : ∀ w, (Op.stringOp .add (⟨#[116, 117, 112, 108, 101, 60]⟩ : ByteArray) (str s)).run Tryd.prog w = .ok (.string (str (116 :: 117 :: 112 :: 108 :: 101 :: 60 :: s))) w := by
      intro w
      have e : 116 :: 117 :: 112 :: 108 :: 101 :: 60 :: s = ([116, 117, 112, 108, 101, 60]) ++ (s) := by simp
      rw [e]
      exact add_str3 ([116, 117, 112, 108, 101, 60]) (s) (by simp only [List.length_append, List.length_cons, List.length_nil]; omega) w
    have pb : ∀ w, (Op.stringOp .add (str (116 :: 117 :: 112 :: 108 :: 101 :: 60 :: s)) (⟨#[44, 32]⟩ : ByteArray)).run Tryd.prog w = .ok (.string (str (116 :: 117 :: 112 :: 108 :: 101 :: 60 :: (s ++ [44, 32])))) w := by
      intro w
      have e : 116 :: 117 :: 112 :: 108 :: 101 :: 60 :: (s ++ [44, 32]) = (116 :: 117 :: 112 :: 108 :: 101 :: 60 :: s) ++ ([44, 32]) := by simp
      rw [e]
      exact add_str3 (116 :: 117 :: 112 :: 108 :: 101 :: 60 :: s) ([44, 32]) (by simp only [List.length_append, List.length_cons, List.length_nil]; omega) w
    have pc : ∀ w, (Op.stringOp .add (str (116 :: 117 :: 112 :: 108 :: 101 :: 60 :: (s ++ [44, 32]))) (str t)).run Tryd.prog w = .ok (.string (str (116 :: 117 :: 112 :: 108 :: 101 :: 60 :: (s ++ 44 :: 32 :: t)))) w := by
      intro w
      have e : 116 :: 117 :: 112 :: 108 :: 101 :: 60 :: (s ++ 44 :: 32 :: t) = (116 :: 117 :: 112 :: 108 :: 101 :: 60 :: (s ++ [44, 32])) ++ (t) := by simp
      rw [e]
      exact add_str3 (116 :: 117 :: 112 :: 108 :: 101 :: 60 :: (s ++ [44, 32])) (t) (by simp only [List.length_append, List.length_cons, List.length_nil]; omega) w
    have pd : ∀ w, (Op.stringOp .add (str (116 :: 117 :: 112 :: 108 :: 101 :: 60 :: (s ++ 44 :: 32 :: t))) (⟨#[62]⟩ : ByteArray)).run Tryd.prog w = .ok (.string (str (116 :: 117 :: 112 :: 108 :: 101 :: 60 :: (s ++ 44 :: 32 :: (t ++ [62]))))) w := by
      intro w
      have e : 116 :: 117 :: 112 :: 108 :: 101 :: 60 :: (s ++ 44 :: 32 :: (t ++ [62])) = (116 :: 117 :: 112 :: 108 :: 101 :: 60 :: (s ++ 44 :: 32 :: t)) ++ ([62]) := by simp
      rw [e]
      exact add_str3 (116 :: 117 :: 112 :: 108 :: 101 :: 60 :: (s ++ 44 :: 32 :: t)) ([62]) (by simp only [List.length_append, List.length_cons, List.length_nil]; omega) w
    simp only [List.cons_append, List.nil_append]
    clear ls lt
    go_wp2_with fail
    go_ret
    exact ⟨rfl, hb09⟩
end Go.Proofs.Sb
