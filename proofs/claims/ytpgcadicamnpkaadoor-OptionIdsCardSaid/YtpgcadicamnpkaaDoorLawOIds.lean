/- The walk over signalboxlaw04.OptionIds: true at every input, and nothing that was there has turned. Conditions: the table of names reads as it was laid. -/
import Derived.Test.YtpgcadicamnpkaaDoorAwake4
import Derived.Test.YtpgcadicamnpkaaDoorOptl
import Derived.Test.YtpgcadicamnpkaaDoorOptr
import Derived.Test.YtpgcadicamnpkaaDoorOptx
import Derived.Test.YtpgcadicamnpkaaDoorOptu
import Derived.Test.YtpgcadicamnpkaaDoorOptv
set_option linter.unusedVariables false
set_option linter.unusedSimpArgs false
namespace Go.Proofs.Sb
open Go.RowKit _root_.Sb

def idO (id : Nat) : Opt := ⟨id, [], [], [], []⟩
theorem idO_R {id : Nat} (h : id < 65536) (w : World) : OptR (fun _ => True) w 0 0 none 0 0 none 0 0 (idO id) := ⟨h, Nat.le_refl _, Nat.le_refl _, Arr.nil, Arr.nil⟩
theorem idO_n (id : Nat) : nD (0 + 1) (idO id) = 1 := by simp [nD, idO]
theorem id_bytes {id : Nat} (h : id < 65536) : [Value.int .u8 ((id : Int) / 256), .int .u8 ((id : Int) % 256), .int .u8 0, .int .u8 0] = bv (enc 2 id ++ [0, 0]) := by
  have e1 : enc 2 id = [UInt8.ofNat (id / 256), UInt8.ofNat id] := by rw [enc_succ, enc_succ]; rfl
  rw [e1]
  have h1 : ((UInt8.ofNat (id / 256)).toNat : Int) = (id : Int) / 256 := by rw [UInt8.toNat_ofNat']; omega
  have h2 : ((UInt8.ofNat id).toNat : Int) = (id : Int) % 256 := by rw [UInt8.toNat_ofNat']; omega
  show _ = [Value.int .u8 ((UInt8.ofNat (id / 256)).toNat : Int), .int .u8 ((UInt8.ofNat id).toNat : Int), .int .u8 0, .int .u8 0]
  rw [h1, h2]
set_option maxHeartbeats 4000000 in
set_option maxRecDepth 100000 in
theorem optionIds_any {id : Nat} {w : World} (hid : id < 65536) (hpl : Pl w) :
    Calls Tryd.prog 7 #[.int .u16 (id : Int)] w fun e w' => e = .returned (.bool true) ∧ Below w.heap.size w w' := by
  have HPL := Lib.hid hpl; clear hpl
  obtain ⟨r, hr⟩ : ∃ r, putW (0 + 1) (idO id) = r := ⟨_, rfl⟩
  have HR := Lib.hid hr; clear hr
  obtain ⟨rt, hrt⟩ : ∃ r, textW (0 + 1) (idO id) = r := ⟨_, rfl⟩
  have HRT := Lib.hid hrt; clear hrt
  obtain ⟨rg, hrg⟩ : ∃ r, getO 20 (enc 2 id ++ [0, 0]) = r := ⟨_, rfl⟩
  have HRG := Lib.hid hrg; clear hrg
  have HRO := fun w => idO_R hid w
  have HND := Lib.hid (idO_n id)
  have HLIM := Lib.hid (show nD (0 + 1) (idO id) * (2 * 0 + 30) ≤ 140737488355328 by rw [idO_n]; decide)
  have HTL := Lib.hid (tell_lim (HRO w) (by decide) (by rw [idO_n]; decide))
  go_enter Tryd.func7, Tryd.ntmps7
  go_wp2_with fail
  refine (awake4 HPL.out).mono ?_
  rintro e w1 ⟨rfl, hb1⟩
  go_wp2_with fail
  refine (oPut_any (HRO _) (by decide) ((HPL.out.after hb1).after (by repeat (first | exact Below.refl _ _ | assumption | refine Below.drew ?_ | refine below_drewN ?_ _ | refine Below.alloc ?_ (by first | (simp; done) | omega | (simp; omega)) _ | refine Below.setCell ?_ (by first | (simp; done) | omega | (simp; omega)) _))) (by have := HND.out; omega) r HR.out).mono ?_
  rintro e w3 ⟨A3, n3, c3, rfl, ho3, hb3⟩
  have p0 : w3.cell? ⟨w1.heap.size, 0, none⟩ = some (.int .u16 (id : Int)) := kcell hb3 (by go_simp)
  have p1 : w3.cell? ⟨w1.heap.size, 1, none⟩ = some (.string ⟨#[]⟩) := kcell hb3 (by go_simp)
  have p2 : w3.cell? ⟨w1.heap.size, 2, none⟩ = some (.string ⟨#[]⟩) := kcell hb3 (by go_simp)
  have p3 : w3.cell? ⟨w1.heap.size, 3, none⟩ = some (.slice none 0 0) := kcell hb3 (by go_simp)
  have p4 : w3.cell? ⟨w1.heap.size, 4, none⟩ = some (.slice none 0 0) := kcell hb3 (by go_simp)
  have hb03 : Below w.heap.size w w3 := seqB hb1 (Below.trans ((by repeat (first | exact Below.refl _ _ | assumption | refine Below.drew ?_ | refine below_drewN ?_ _ | refine Below.alloc ?_ (by first | (simp; done) | omega | (simp; omega)) _ | refine Below.setCell ?_ (by first | (simp; done) | omega | (simp; omega)) _)) : Below w1.heap.size w1 _) (hb3.mono (by simp)))
  have HS3 := Lib.hid ho3.sl; clear ho3
  go_wp2_with fail
  refine (Put4_any (HRO _) (by decide) (by have := HND.out; omega) r HR.out).mono ?_
  rintro e w4 ⟨A4, n4, c4, rfl, ho4, hb4⟩
  replace p0 := kcell hb4 p0
  replace p1 := kcell hb4 p1
  replace p2 := kcell hb4 p2
  replace p3 := kcell hb4 p3
  replace p4 := kcell hb4 p4
  have hb04 := seqB hb03 hb4
  have HS4 := Lib.hid ho4.sl; clear ho4
  go_wp2_with fail
  refine (oText_any (HRO _) (HPL.out.after hb04) (by have := HND.out; omega) (by have := HTL.out; omega) rt HRT.out).mono ?_
  rintro e w5 ⟨rfl, hb5⟩
  replace p0 := kcell hb5 p0
  replace p1 := kcell hb5 p1
  replace p2 := kcell hb5 p2
  replace p3 := kcell hb5 p3
  replace p4 := kcell hb5 p4
  have hb05 := seqB hb04 hb5
  go_wp2_with fail
  refine (Text4_any (HRO _) (by have := HND.out; omega) HLIM.out rt HRT.out).mono ?_
  rintro e w6 ⟨rfl, hb6⟩
  clear p0 p1 p2 p3 p4
  have hb06 := seqB hb05 hb6
  have hb36 := seqB hb4 (seqB hb5 hb6)
  have HS36 := Lib.hid (HS3.out.after hb36)
  have HS46 := Lib.hid (HS4.out.after (seqB hb5 hb6))
  clear HS3 HS4 hb36
  go_wp2_with fail
  have HBV := Lib.hid (id_bytes hid)
  have HBL := Lib.hid (show 4 = (enc 2 id ++ [0, 0]).length by rw [List.length_append, enc_length]; rfl)
  refine (oGet_any (sl_lit w6 _ 4 (enc 2 id ++ [0, 0]) HBV.out HBL.out (by unfold maxLen; omega) rfl) (by omega) ((HPL.out.after hb06).after (by repeat (first | exact Below.refl _ _ | assumption | refine Below.drew ?_ | refine below_drewN ?_ _ | refine Below.alloc ?_ (by first | (simp; done) | omega | (simp; omega)) _ | refine Below.setCell ?_ (by first | (simp; done) | omega | (simp; omega)) _))) rg HRG.out).mono ?_
  rintro e w7 ⟨A1, n1, c1, A2, n2, c2, A7, n7, c7, rfl, hx7, hs7, hb7⟩
  have HX7 := Lib.hid hx7; clear hx7
  have HS7 := Lib.hid hs7; clear hs7
  have hb67 : Below w6.heap.size w6 w7 := Below.trans (by repeat (first | exact Below.refl _ _ | assumption | refine Below.drew ?_ | refine below_drewN ?_ _ | refine Below.alloc ?_ (by first | (simp; done) | omega | (simp; omega)) _ | refine Below.setCell ?_ (by first | (simp; done) | omega | (simp; omega)) _)) (hb7.mono (by simp))
  clear hb7
  go_wp2_with fail
  refine (rget4_any 20 (a := 0) (sl_lit _ _ 4 (enc 2 id ++ [0, 0]) HBV.out HBL.out (by unfold maxLen; omega) (by simp)) (by omega) (by omega) (by omega) (by omega) rg (by rw [List.drop_zero]; exact HRG.out)).mono ?_
  rintro e w8 ⟨B1, m1, d1, B2, m2, d2, q, rfl, hx8, hq8, hb8⟩
  have HX8 := Lib.hid hx8; clear hx8
  have HQ8 := Lib.hid hq8; clear hq8
  have p0 : w8.cell? ⟨w7.heap.size, 0, none⟩ = some (.int .u16 ((rval Opt.none rg).id : Int)) := kcell hb8 (by go_simp)
  have p1 : w8.cell? ⟨w7.heap.size, 1, none⟩ = some (.string (str (rval Opt.none rg).space)) := kcell hb8 (by go_simp)
  have p2 : w8.cell? ⟨w7.heap.size, 2, none⟩ = some (.string (str (rval Opt.none rg).name)) := kcell hb8 (by go_simp)
  have p3 : w8.cell? ⟨w7.heap.size, 3, none⟩ = some (.slice A1 n1 c1) := kcell hb8 (by go_simp)
  have p4 : w8.cell? ⟨w7.heap.size, 4, none⟩ = some (.slice A2 n2 c2) := kcell hb8 (by go_simp)
  have hb78 : Below w7.heap.size w7 w8 := Below.trans (by repeat (first | exact Below.refl _ _ | assumption | refine Below.drew ?_ | refine below_drewN ?_ _ | refine Below.alloc ?_ (by first | (simp; done) | omega | (simp; omega)) _ | refine Below.setCell ?_ (by first | (simp; done) | omega | (simp; omega)) _)) (hb8.mono (by simp; omega))
  clear hb8
  have hb08 := seqB hb06 (seqB hb67 hb78)
  have hz8 : w7.heap.size < w8.heap.size := by have := World.block_lt_of_cell? w8 _ p0; exact this
  have hc3 := fun W (h : Below w8.heap.size w8 W) => conv_sl (HS36.out.after (seqB hb67 (seqB hb78 h)))
  have hc4 := fun W (h : Below w8.heap.size w8 W) => conv_sl (HS46.out.after (seqB hb67 (seqB hb78 h)))
  have hl7 := HS7.out.len
  have hd3 := hc3 _ ((Below.refl _ _).alloc (Nat.le_refl _) (.cells #[.int .u16 ((rval Opt.none rg).id : Int), .string (str (rval Opt.none rg).space), .string (str (rval Opt.none rg).name), .slice B1 m1 d1, .slice B2 m2 d2] 26))
  have hd4 := hc4 _ ((Below.refl _ _).alloc (Nat.le_refl _) (.cells #[.int .u16 ((rval Opt.none rg).id : Int), .string (str (rval Opt.none rg).space), .string (str (rval Opt.none rg).name), .slice B1 m1 d1, .slice B2 m2 d2] 26))
  clear hc3 hc4
  cases rg with
  | error er =>
    have hne := getO_ne HRG.out
    have he2 : (er == 0) = false := by simpa using hne
    have he3 : (er != 0) = true := by simpa using hne
    simp only [rerr_error]
    simp only [rval_error] at hd3 hd4
    go_wp2_with fail
    refine (same4_any 20 ((HX7.out.after hb78).after (by repeat (first | exact Below.refl _ _ | assumption | refine Below.drew ?_ | refine below_drewN ?_ _ | refine Below.alloc ?_ (by first | (simp; done) | omega | (simp; omega)) _ | refine Below.setCell ?_ (by first | (simp; done) | omega | (simp; omega)) _))) (HX8.out.after (by repeat (first | exact Below.refl _ _ | assumption | refine Below.drew ?_ | refine below_drewN ?_ _ | refine Below.alloc ?_ (by first | (simp; done) | omega | (simp; omega)) _ | refine Below.setCell ?_ (by first | (simp; done) | omega | (simp; omega)) _)))).mono ?_
    rintro e w9 ⟨rfl, hb9⟩
    go_wp2_with fail
    go_ret
    exact ⟨by simp, seqB hb08 (Below.trans ((by repeat (first | exact Below.refl _ _ | assumption | refine Below.drew ?_ | refine below_drewN ?_ _ | refine Below.alloc ?_ (by first | (simp; done) | omega | (simp; omega)) _ | refine Below.setCell ?_ (by first | (simp; done) | omega | (simp; omega)) _)) : Below w8.heap.size w8 _) (hb9.mono (by simp)))⟩
  | ok p =>
    have hqd := congrArg List.length HQ8.out.drop
    have hqm := HQ8.out.le
    rw [← HBL.out] at hqm
    rw [List.length_drop, ← HBL.out] at hqd
    simp only [rrest_ok] at hl7
    have hnq : (n7 : Int) = wrap64 (4 - (q : Int)) := by unfold wrap64; omega
    clear hqd hqm hl7
    simp only [rerr_ok]
    simp only [rval_ok] at hd3 hd4
    go_wp2_with fail
    refine (same4_any 20 ((HX7.out.after hb78).after (by repeat (first | exact Below.refl _ _ | assumption | refine Below.drew ?_ | refine below_drewN ?_ _ | refine Below.alloc ?_ (by first | (simp; done) | omega | (simp; omega)) _ | refine Below.setCell ?_ (by first | (simp; done) | omega | (simp; omega)) _))) (HX8.out.after (by repeat (first | exact Below.refl _ _ | assumption | refine Below.drew ?_ | refine below_drewN ?_ _ | refine Below.alloc ?_ (by first | (simp; done) | omega | (simp; omega)) _ | refine Below.setCell ?_ (by first | (simp; done) | omega | (simp; omega)) _)))).mono ?_
    rintro e w9 ⟨rfl, hb9⟩
    go_wp2_with fail
    go_ret
    exact ⟨by simp [← hnq], seqB hb08 (Below.trans ((by repeat (first | exact Below.refl _ _ | assumption | refine Below.drew ?_ | refine below_drewN ?_ _ | refine Below.alloc ?_ (by first | (simp; done) | omega | (simp; omega)) _ | refine Below.setCell ?_ (by first | (simp; done) | omega | (simp; omega)) _)) : Below w8.heap.size w8 _) (hb9.mono (by simp)))⟩
end Go.Proofs.Sb
