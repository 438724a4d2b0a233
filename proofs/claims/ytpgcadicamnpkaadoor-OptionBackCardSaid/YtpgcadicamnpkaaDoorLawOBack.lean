/- The walk over signalboxlaw04.OptionBack: true at every input, and nothing that was there has turned. Conditions: the table of names reads as it was laid. -/
import Derived.Test.YtpgcadicamnpkaaDoorAwake4
import Derived.Test.YtpgcadicamnpkaaDoorOptf
import Derived.Test.YtpgcadicamnpkaaDoorCutm
import Derived.Test.YtpgcadicamnpkaaDoorPlanq
import Derived.Test.YtpgcadicamnpkaaDoorArrc
set_option linter.unusedVariables false
set_option linter.unusedSimpArgs false
namespace Go.Proofs.Sb
open Go.RowKit _root_.Sb

theorem putW_ne' {d : Nat} {o : Opt} {e : Int} (h : putW d o = .error e) : e ≠ 0 := by
  unfold putW at h
  split at h
  · injection h with h; omega
  · exact putD_ne h
set_option maxHeartbeats 8000000 in
set_option maxRecDepth 100000 in
theorem optionBack_any {d : Nat} {S S' : Nat → Prop} {M : Nat} {A1 : Option Addr} {n1 c1 : Nat} {A2 : Option Addr} {n2 c2 : Nat} {o : Opt} {A : Option Addr} {m c : Nat} {bs : B} {w : World} (ho : OptR S w M d A1 n1 c1 A2 n2 c2 o) (hM : M ≤ 9223372036854775807) (hs : Sl S' w A m c bs) (hpl : Pl w) :
    Calls Tryd.prog 5 #[optV o A1 n1 c1 A2 n2 c2, .slice A m c] w fun e w' => e = .returned (.bool true) ∧ Below w.heap.size w w' := by
  have HO := Lib.hid ho; clear ho
  have HPL := Lib.hid hpl; clear hpl
  have hmcap := hs.cap
  have hmcm := hs.capMax
  have HML := Lib.hid hs.len
  have HS := Lib.hid hs.lt; clear hs
  obtain ⟨fv, hfv⟩ : ∃ fv, fewD (d + 1) o 0 = fv := ⟨_, rfl⟩
  have HFV := Lib.hid hfv; clear hfv
  obtain ⟨r, hr⟩ : ∃ r, putW (d + 1) o = r := ⟨_, rfl⟩
  have HR := Lib.hid hr; clear hr
  go_enter Tryd.func5, Tryd.ntmps5
  go_wp2_with fail
  refine (awake4 (HPL.out.after (by repeat (first | exact Below.refl _ _ | assumption | refine Below.drew ?_ | refine below_drewN ?_ _ | refine Below.alloc ?_ (by first | (simp; done) | omega | (simp; omega)) _ | refine Below.setCell ?_ (by first | (simp; done) | omega | (simp; omega)) _)))).mono ?_
  rintro e w1 ⟨rfl, hb1⟩
  have p0 : w1.cell? ⟨w.heap.size, 0, none⟩ = some (.int .u16 (o.id : Int)) := kcell hb1 (by go_simp)
  have p1 : w1.cell? ⟨w.heap.size, 1, none⟩ = some (.string (str o.space)) := kcell hb1 (by go_simp)
  have p2 : w1.cell? ⟨w.heap.size, 2, none⟩ = some (.string (str o.name)) := kcell hb1 (by go_simp)
  have p3 : w1.cell? ⟨w.heap.size, 3, none⟩ = some (.slice A1 n1 c1) := kcell hb1 (by go_simp)
  have p4 : w1.cell? ⟨w.heap.size, 4, none⟩ = some (.slice A2 n2 c2) := kcell hb1 (by go_simp)
  replace hb1 : Below w.heap.size w w1 := Below.trans (by repeat (first | exact Below.refl _ _ | assumption | refine Below.drew ?_ | refine below_drewN ?_ _ | refine Below.alloc ?_ (by first | (simp; done) | omega | (simp; omega)) _ | refine Below.setCell ?_ (by first | (simp; done) | omega | (simp; omega)) _)) (hb1.mono (by simp))
  go_wp2_with fail
  refine (few_any d (deep := 0) (HO.out.after hb1) (by omega)).mono ?_
  rintro e w2 ⟨rfl, hb2⟩
  rw [HFV.out]
  replace p0 := kcell hb2 p0
  replace p1 := kcell hb2 p1
  replace p2 := kcell hb2 p2
  replace p3 := kcell hb2 p3
  replace p4 := kcell hb2 p4
  have hb02 := seqB hb1 hb2
  cases fv with
  | false =>
    go_wp2_with fail
    go_ret
    exact ⟨rfl, hb02⟩
  | true =>
  by_cases hbig : 2000 < m
  · go_wp2_with fail
    go_ret
    exact ⟨rfl, hb02⟩
  have hn := (few_size HFV.out).2
  have hz2 : w.heap.size < w2.heap.size := by have := World.block_lt_of_cell? w2 _ p0; exact this
  go_wp2_with fail
  refine (oPut_any (HO.out.after hb02) hM (HPL.out.after hb02) (by omega) r HR.out).mono ?_
  rintro e w3 ⟨A3, n3, c3, rfl, ho3, hb3⟩
  replace p0 := kcell hb3 p0
  replace p1 := kcell hb3 p1
  replace p2 := kcell hb3 p2
  replace p3 := kcell hb3 p3
  replace p4 := kcell hb3 p4
  have hb03 := seqB hb02 hb3
  have hz3 : w.heap.size < w3.heap.size := by have := World.block_lt_of_cell? w3 _ p0; exact this
  cases r with
  | error er =>
    have hne := putW_ne' HR.out
    clear ho3 p0 p1 p2 p3 p4
    simp only [werr_error]
    obtain ⟨rk, hrk⟩ : ∃ r, getO 20 bs = r := ⟨_, rfl⟩
    have HRK := Lib.hid hrk; clear hrk
    go_wp2_with fail
    refine (oGet_any (HS.out.after hb03) (by omega) (HPL.out.after hb03) rk HRK.out).mono ?_
    rintro e v1 ⟨E1, l1, f1, E2, l2, f2, E3, l3, f3, rfl, k0, k3, kb1⟩
    have kb01 := seqB hb03 kb1
    cases rk with
    | error ek =>
      have hne : ek ≠ 0 := getO_ne HRK.out
      clear k0 k3
      simp only [rerr_error]
      go_wp2_with fail
      go_ret
      exact ⟨rfl, kb01.alloc kb01.size _⟩
    | ok pk =>
      obtain ⟨q, lf⟩ := pk
      obtain ⟨y, hy1, hy2, hy3⟩ := got_put HRK.out
      have HY := Lib.hid hy1; clear hy1
      have hq := HS.out.len
      have hy4 : nD 21 q ≤ 2000 := by omega
      have hyl : y.length + lf.length ≤ 2000 := by rw [hy2, List.length_append] at hq; omega
      have hadd := add_str2 y lf (by omega)
      rw [← hy2] at hadd
      have HZ := Lib.hid hy2; clear hy2 hq
      simp only [rerr_ok, rval_ok, rrest_ok] at k0 k3 ⊢
      have K0 := Lib.hid k0; clear k0
      have K3 := Lib.hid k3; clear k3
      have hsz := kb01.size
      go_wp2_with fail
      refine (oPut_any (M := 9223372036854775807) (K0.out.after (by repeat (first | exact Below.refl _ _ | assumption | refine Below.drew ?_ | refine below_drewN ?_ _ | refine Below.alloc ?_ (by first | (simp; done) | omega | (simp; omega)) _ | refine Below.setCell ?_ (by first | (simp; done) | omega | (simp; omega)) _))) (by decide) ((HPL.out.after kb01).after (by repeat (first | exact Below.refl _ _ | assumption | refine Below.drew ?_ | refine below_drewN ?_ _ | refine Below.alloc ?_ (by first | (simp; done) | omega | (simp; omega)) _ | refine Below.setCell ?_ (by first | (simp; done) | omega | (simp; omega)) _))) (by show nD 21 q ≤ 1000000; omega) (.ok y) HY.out).mono ?_
      rintro e v2 ⟨E4, l4, f4, rfl, k4, kb2⟩
      have kb2' : Below v1.heap.size v1 v2 := Below.trans (by repeat (first | exact Below.refl _ _ | assumption | refine Below.drew ?_ | refine below_drewN ?_ _ | refine Below.alloc ?_ (by first | (simp; done) | omega | (simp; omega)) _ | refine Below.setCell ?_ (by first | (simp; done) | omega | (simp; omega)) _)) (kb2.mono (by simp))
      have kb02 := seqB kb01 kb2'
      simp only [werr_ok, wval_ok] at k4 ⊢
      have hcy := conv_sl k4.sl
      have hcl := conv_sl (K3.out.after kb2')
      have hcm := conv_sl (HS.out.after kb02)
      go_wp2_with fail
      go_ret
      exact ⟨by simp, kb02⟩

  | ok b =>
    simp only [werr_ok, wval_ok] at ho3 ⊢
    have hbl : b.length ≤ 40000000 := by
      have h := HR.out
      unfold putW at h
      split at h
      · cases h
      · have := putD_len h; omega
    have hml : bs.length ≤ 2000 := by have := HML.out; omega
    obtain ⟨g1, g2, g3, g4, g5⟩ := put_got (m := bs) HR.out
    have G1 := Lib.hid g1; clear g1
    have G2 := Lib.hid g2; clear g2
    have G4 := Lib.hid g4; clear g4
    have G5 := Lib.hid g5; clear g5
    generalize normD (d + 1) o = q at *
    have hn3 := ho3.len
    have HN3 := Lib.hid hn3; clear hn3
    have hblk3 := ho3.block
    have HB3 := Lib.hid hblk3; clear hblk3
    go_wp2_with (at_builtin; refine wpList_appk rfl _ _ rfl w2.heap.size _ _ _ b rfl ho3 (fun b => S' b ∧ b < w.heap.size) _ _ _ bs rfl (HS.out.after hb03) (by omega) hb3.size ?_; intro A4 n4 c4 w4 ho4 hg4 hs4)
    have pk : w4.heap[w.heap.size]? = w3.heap[w.heap.size]? := hg4.block _ hz3 (fun e => by have := (HB3.out _ e.symm).1; omega)
    replace p0 := (World.cell?_of_block (a := ⟨w.heap.size, 0, none⟩) pk).trans p0
    replace p1 := (World.cell?_of_block (a := ⟨w.heap.size, 1, none⟩) pk).trans p1
    replace p2 := (World.cell?_of_block (a := ⟨w.heap.size, 2, none⟩) pk).trans p2
    replace p3 := (World.cell?_of_block (a := ⟨w.heap.size, 3, none⟩) pk).trans p3
    replace p4 := (World.cell?_of_block (a := ⟨w.heap.size, 4, none⟩) pk).trans p4
    have hb04 : Below w.heap.size w w4 := Below.grown hb03 hg4 hb03.size fun k e => by have := (HB3.out k e).1; omega
    have hn4 := ho4.len
    rw [List.length_append] at hn4
    have HO4 := Lib.hid ho4; clear ho4
    have HS4 := Lib.hid hs4; clear hs4
    clear ho3 hg4 pk
    have hz4 : w.heap.size < w4.heap.size := by have := World.block_lt_of_cell? w4 _ p0; exact this
    refine (oGet_any HO4.out.slb (by omega) (HPL.out.after hb04) _ G1.out).mono ?_
    rintro e w5 ⟨A5, n5, c5, A6, n6, c6, A7, n7, c7, rfl, ho5, hs5, hb5⟩
    simp only [rerr_ok, rval_ok, rrest_ok] at ho5 hs5 ⊢
    replace p0 := kcell hb5 p0
    replace p1 := kcell hb5 p1
    replace p2 := kcell hb5 p2
    replace p3 := kcell hb5 p3
    replace p4 := kcell hb5 p4
    have hb05 := seqB hb04 hb5
    have hz5 : w.heap.size < w5.heap.size := by have := World.block_lt_of_cell? w5 _ p0; exact this
    have HO5 := Lib.hid ho5; clear ho5
    have HS5 := Lib.hid hs5; clear hs5
    clear hn4
    go_wp2_with fail
    refine (oPut_any (M := 9223372036854775807) (HO5.out.after (by repeat (first | exact Below.refl _ _ | assumption | refine Below.drew ?_ | refine below_drewN ?_ _ | refine Below.alloc ?_ (by first | (simp; done) | omega | (simp; omega)) _ | refine Below.setCell ?_ (by first | (simp; done) | omega | (simp; omega)) _))) (by decide) ((HPL.out.after hb05).after (by repeat (first | exact Below.refl _ _ | assumption | refine Below.drew ?_ | refine below_drewN ?_ _ | refine Below.alloc ?_ (by first | (simp; done) | omega | (simp; omega)) _ | refine Below.setCell ?_ (by first | (simp; done) | omega | (simp; omega)) _))) (by show nD 21 q ≤ 1000000; omega) (.ok b) G2.out).mono ?_
    rintro e w6 ⟨A8, n8, c8, rfl, ho8, hb6⟩
    simp only [werr_ok, wval_ok] at ho8 ⊢
    have hn6 : n6 = n2 := by have h1 := HO5.out.kids.len; have h2 := HO.out.kids.len; have h3 := G5.out; omega
    subst hn6
    have r0 : w6.cell? ⟨w5.heap.size, 0, none⟩ = some (.int .u16 (o.id : Int)) := by rw [← G4.out]; exact kcell hb6 (by go_simp)
    have r4 : w6.cell? ⟨w5.heap.size, 4, none⟩ = some (.slice A6 n6 c6) := kcell hb6 (by go_simp)
    have hb6' : Below w5.heap.size w5 w6 := Below.trans (by repeat (first | exact Below.refl _ _ | assumption | refine Below.drew ?_ | refine below_drewN ?_ _ | refine Below.alloc ?_ (by first | (simp; done) | omega | (simp; omega)) _ | refine Below.setCell ?_ (by first | (simp; done) | omega | (simp; omega)) _)) (hb6.mono (by simp))
    clear p1 p2 p3
    replace p0 := kcell hb6' p0
    replace p4 := kcell hb6' p4
    have hb06 := seqB hb05 hb6'
    have hcb := conv_sl ho8.sl
    have hc3 := conv_sl (HS4.out.after (seqB hb5 hb6'))
    have hcr := conv_sl (HS5.out.after hb6')
    have hcm := conv_sl (HS.out.after hb06)
    clear ho8 hb6
    have hz6 : w.heap.size < w6.heap.size := by have := World.block_lt_of_cell? w6 _ p0; exact this
    go_wp2_with fail
    clear hcb hc3 hcr hcm p0 p4 r0 r4
    obtain ⟨rk, hrk⟩ : ∃ r, getO 20 bs = r := ⟨_, rfl⟩
    have HRK := Lib.hid hrk; clear hrk
    go_wp2_with fail
    refine (oGet_any (HS.out.after hb06) (by omega) (HPL.out.after hb06) rk HRK.out).mono ?_
    rintro e v1 ⟨E1, l1, f1, E2, l2, f2, E3, l3, f3, rfl, k0, k3, kb1⟩
    have kb01 := seqB hb06 kb1
    cases rk with
    | error ek =>
      have hne : ek ≠ 0 := getO_ne HRK.out
      clear k0 k3
      simp only [rerr_error]
      go_wp2_with fail
      go_ret
      exact ⟨rfl, kb01.alloc kb01.size _⟩
    | ok pk =>
      obtain ⟨q, lf⟩ := pk
      obtain ⟨y, hy1, hy2, hy3⟩ := got_put HRK.out
      have HY := Lib.hid hy1; clear hy1
      have hq := HS.out.len
      have hy4 : nD 21 q ≤ 2000 := by omega
      have hyl : y.length + lf.length ≤ 2000 := by rw [hy2, List.length_append] at hq; omega
      have hadd := add_str2 y lf (by omega)
      rw [← hy2] at hadd
      have HZ := Lib.hid hy2; clear hy2 hq
      simp only [rerr_ok, rval_ok, rrest_ok] at k0 k3 ⊢
      have K0 := Lib.hid k0; clear k0
      have K3 := Lib.hid k3; clear k3
      have hsz := kb01.size
      go_wp2_with fail
      refine (oPut_any (M := 9223372036854775807) (K0.out.after (by repeat (first | exact Below.refl _ _ | assumption | refine Below.drew ?_ | refine below_drewN ?_ _ | refine Below.alloc ?_ (by first | (simp; done) | omega | (simp; omega)) _ | refine Below.setCell ?_ (by first | (simp; done) | omega | (simp; omega)) _))) (by decide) ((HPL.out.after kb01).after (by repeat (first | exact Below.refl _ _ | assumption | refine Below.drew ?_ | refine below_drewN ?_ _ | refine Below.alloc ?_ (by first | (simp; done) | omega | (simp; omega)) _ | refine Below.setCell ?_ (by first | (simp; done) | omega | (simp; omega)) _))) (by show nD 21 q ≤ 1000000; omega) (.ok y) HY.out).mono ?_
      rintro e v2 ⟨E4, l4, f4, rfl, k4, kb2⟩
      have kb2' : Below v1.heap.size v1 v2 := Below.trans (by repeat (first | exact Below.refl _ _ | assumption | refine Below.drew ?_ | refine below_drewN ?_ _ | refine Below.alloc ?_ (by first | (simp; done) | omega | (simp; omega)) _ | refine Below.setCell ?_ (by first | (simp; done) | omega | (simp; omega)) _)) (kb2.mono (by simp))
      have kb02 := seqB kb01 kb2'
      simp only [werr_ok, wval_ok] at k4 ⊢
      have hcy := conv_sl k4.sl
      have hcl := conv_sl (K3.out.after kb2')
      have hcm := conv_sl (HS.out.after kb02)
      go_wp2_with fail
      go_ret
      exact ⟨by simp, kb02⟩

end Go.Proofs.Sb
