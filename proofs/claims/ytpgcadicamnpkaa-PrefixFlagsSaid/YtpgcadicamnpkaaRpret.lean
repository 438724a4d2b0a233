/- Walks over signalboxref07.Get. Conditions: lengths up to 2^47. (written by gen_rpre.py) -/
import Derived.Test.YtpgcadicamnpkaaRpre
set_option linter.unusedVariables false
set_option linter.unusedSimpArgs false
namespace Go.Proofs.Sb
open Go.RowKit _root_.Sb


set_option maxHeartbeats 8000000 in
set_option maxRecDepth 100000 in
theorem rpret_any {S : Nat → Prop} {A : Option Addr} {m c a f : Nat} {bs : B} {w : World} (hs : Sl S w A m c bs) (hm : m ≤ 140737488355328) (ha : a ≤ m) (hf : f < 256) (r : Res Pre) (hr : readR f respParts Pre.none (bs.drop a) = r) :
    Calls Try.prog 13 #[.bool true, .int .u8 (f : Int), .slice A m c, .int .i64 (a : Int)] w fun e w' => ∃ A1 n1 c1 A2 n2 c2, ∃ q : Nat, e = .returned (.tuple #[.agg #[.string (str (rval Pre.none r).tracing), .slice A1 n1 c1, .slice A2 n2 c2], .int .i64 (q : Int), .int .i64 (rerr r)]) ∧
      IT w.heap.size w' A1 n1 c1 ((rval Pre.none r).warnings.map .ofText) ∧ IT w.heap.size w' A2 n2 c2 ((rval Pre.none r).payload.map .ofEntry) ∧ AtR bs q r ∧ Below w.heap.size w w' := by
  have hl := Lib.hid hs.len
  have hml : a ≤ bs.length := by have := hl.out; omega
  obtain ⟨ub, hub⟩ : ∃ u, bs.drop a = u := ⟨_, rfl⟩
  rw [hub] at hr
  have HD0 := Lib.hid hub; clear hub
  have HR0 := Lib.hid (show readR f [(2, 0), (8, 1), (4, 2)] Pre.none ub = r from hr); clear hr
  have HS := Lib.hid hs; clear hs
  go_enter Try.func13, Try.ntmps13
  cases hf0 : flagB f 2 with
  | false =>
    have hq0 := flag_int hf0
    have hq0 : (((f : Int) / 2 % 2) == 1) = false := hq0
    have HR1 := Lib.hid (readR_c_skip HR0.out hf0)
    clear hf0 HR0
    cases hf1 : flagB f 8 with
    | false =>
      have hq1 := flag_int hf1
      have hq1 : (((f : Int) / 8 % 2) == 1) = false := hq1
      have HR2 := Lib.hid (readR_c_skip HR1.out hf1)
      clear hf1 HR1
      cases hf2 : flagB f 4 with
      | false =>
        have hq2 := flag_int hf2
        have hq2 : (((f : Int) / 4 % 2) == 1) = false := hq2
        have HR3 := Lib.hid (readR_c_skip HR2.out hf2)
        clear hf2 HR2
        have h0 : r = .ok (⟨[], [], []⟩, ub) := HR3.out.symm
        subst h0
        clear HR3
        try simp only [rerr_ok, rval_ok]
        go_wp2_with fail
        refine bodyPost_ret (v := .tuple #[.agg #[.string (str []), .slice none 0 0, .slice none 0 0], .int .i64 (a : Int), .int .i64 0]) (by simp [results, Try.results13, go_sem, str]) rfl ?_
        exact ⟨none, 0, 0, none, 0, 0, a, rfl, IT.nil, IT.nil, AtR.ok (by have := hl.out; omega) HD0.out, (by repeat (first | exact Below.refl _ _ | assumption | refine Below.drew ?_ | refine below_drewN ?_ _ | refine Below.alloc ?_ (by first | (simp; done) | omega | (simp; omega)) _ | refine Below.setCell ?_ (by first | (simp; done) | omega | (simp; omega)) _))⟩
      | true =>
        have hq2 : (((f : Int) / 4 % 2) == 1) = true := flag_int hf2
        have HF2 := Lib.hid hf2; clear hf2
        obtain ⟨rk2, hrk⟩ : ∃ rk, getL entryR (ub) = rk := ⟨_, rfl⟩
        have HK2 := Lib.hid hrk; clear hrk
        go_wp2_with fail
        refine (rgeti3_any (HS.out.after (by repeat (first | exact Below.refl _ _ | assumption | refine Below.drew ?_ | refine below_drewN ?_ _ | refine Below.alloc ?_ (by first | (simp; done) | omega | (simp; omega)) _ | refine Below.setCell ?_ (by first | (simp; done) | omega | (simp; omega)) _))) hm (by have := hl.out; omega) (rmap (List.map Thing.ofEntry) rk2) (by rw [HD0.out, get_entries, HK2.out])).mono ?_
        rintro e w4 ⟨A2, n2, c2, q2, rfl, hit2, hat2, hb2⟩
        have x0 : w4.cell? ⟨w.heap.size, 0, none⟩ = some (.string (str [])) := kcell hb2 (by go_simp; rfl)
        have x1 : w4.cell? ⟨w.heap.size, 1, none⟩ = some (.slice none 0 0) := kcell hb2 (by go_simp)
        have x2 : w4.cell? ⟨w.heap.size, 2, none⟩ = some (.slice none 0 0) := kcell hb2 (by go_simp)
        have p0 : w4.cell? ⟨w.heap.size + 1, 0, none⟩ = some (.string (str [])) := kcell hb2 (by go_simp; rfl)
        have p1 : w4.cell? ⟨w.heap.size + 1, 1, none⟩ = some (.slice none 0 0) := kcell hb2 (by go_simp)
        have p2 : w4.cell? ⟨w.heap.size + 1, 2, none⟩ = some (.slice none 0 0) := kcell hb2 (by go_simp)
        have fy0 : w4.frozen? ⟨w.heap.size, 0, none⟩ = false := kfroz hb2 (by first | (simp; done) | (simp; omega)) (by go_simp)
        have fy1 : w4.frozen? ⟨w.heap.size, 1, none⟩ = false := kfroz hb2 (by first | (simp; done) | (simp; omega)) (by go_simp)
        have fy2 : w4.frozen? ⟨w.heap.size, 2, none⟩ = false := kfroz hb2 (by first | (simp; done) | (simp; omega)) (by go_simp)
        have fz0 : w4.frozen? ⟨w.heap.size + 1, 0, none⟩ = false := kfroz hb2 (by first | (simp; done) | (simp; omega)) (by go_simp)
        have fz1 : w4.frozen? ⟨w.heap.size + 1, 1, none⟩ = false := kfroz hb2 (by first | (simp; done) | (simp; omega)) (by go_simp)
        have fz2 : w4.frozen? ⟨w.heap.size + 1, 2, none⟩ = false := kfroz hb2 (by first | (simp; done) | (simp; omega)) (by go_simp)
        have hbel2 : Below w.heap.size w w4 := Below.trans (by repeat (first | exact Below.refl _ _ | assumption | refine Below.drew ?_ | refine below_drewN ?_ _ | refine Below.alloc ?_ (by first | (simp; done) | omega | (simp; omega)) _ | refine Below.setCell ?_ (by first | (simp; done) | omega | (simp; omega)) _)) (hb2.mono (by simp; omega))
        have hz2 : w.heap.size + 1 < w4.heap.size := World.block_lt_of_cell? w4 ⟨w.heap.size + 1, 0, none⟩ p0
        have hrer : rerr (rmap (List.map Thing.ofEntry) rk2) = rerr rk2 := rerr_rmap _ _
        rw [hrer]
        clear hrer
        cases rk2 with
        | error ek =>
          have hne : ek ≠ 0 := getL_ne (fun _ _ h => er_ne h) HK2.out
          try simp only [rerr_error]
          obtain rfl := readR_c_err HR2.out HF2.out (partR_2 HK2.out)
          clear HR2
          go_wp2_with fail
          refine bodyPost_ret (v := .tuple #[.agg #[.string (str []), .slice none 0 0, .slice none 0 0], .int .i64 0, .int .i64 ek]) (by simp [results, Try.results13, go_sem, str, x0, x1, x2]) rfl ?_
          exact ⟨_, _, _, _, _, _, 0, rfl, IT.nil, IT.nil, AtR.err, (by repeat (first | exact Below.refl _ _ | assumption | refine Below.drew ?_ | refine below_drewN ?_ _ | refine Below.alloc ?_ (by first | (simp; done) | omega | (simp; omega)) _ | refine Below.setCell ?_ (by first | (simp; done) | omega | (simp; omega)) _))⟩
        | ok pk =>
          obtain ⟨y12, u2⟩ := pk
          have hle2 : q2 ≤ bs.length := (AtR.rmap hat2 rfl).1
          have HD3 : Hid (bs.drop q2 = u2) := (AtR.rmap hat2 rfl).2
          have HR3 := Lib.hid (readR_c_ok HR2.out HF2.out (partR_2 HK2.out))
          have HI2 : Hid (IT (w.heap.size + 2) w4 A2 n2 c2 (y12.map Thing.ofEntry)) := IT.mono (base := _) hit2 (by first | (simp; done) | (simp; omega))
          try simp only [rerr_ok]
          clear hat2 HR2 hit2
          have h0 : r = .ok (⟨[], [], y12⟩, u2) := HR3.out.symm
          subst h0
          clear HR3
          try simp only [rerr_ok, rval_ok]
          go_wp2_with fail
          refine bodyPost_ret (v := .tuple #[.agg #[.string (str []), .slice none 0 0, .slice A2 n2 c2], .int .i64 (q2 : Int), .int .i64 0]) (by simp [results, Try.results13, go_sem, str, x0, x1, x2]) rfl ?_
          exact ⟨none, 0, 0, A2, n2, c2, q2, rfl, IT.nil, (((((HI2.out.set (by simp) _).set (by first | (simp; done) | (simp; omega)) _).set (by first | (simp; done) | (simp; omega)) _).set (by first | (simp; done) | (simp; omega)) _).mono (by omega)), AtR.ok (by have := hl.out; omega) HD3.out, (by repeat (first | exact Below.refl _ _ | assumption | refine Below.drew ?_ | refine below_drewN ?_ _ | refine Below.alloc ?_ (by first | (simp; done) | omega | (simp; omega)) _ | refine Below.setCell ?_ (by first | (simp; done) | omega | (simp; omega)) _))⟩
    | true =>
      have hq1 : (((f : Int) / 8 % 2) == 1) = true := flag_int hf1
      have HF1 := Lib.hid hf1; clear hf1
      obtain ⟨rk1, hrk⟩ : ∃ rk, getTexts (ub) = rk := ⟨_, rfl⟩
      have HK1 := Lib.hid hrk; clear hrk
      go_wp2_with fail
      refine (rgeti0_any (HS.out.after (by repeat (first | exact Below.refl _ _ | assumption | refine Below.drew ?_ | refine below_drewN ?_ _ | refine Below.alloc ?_ (by first | (simp; done) | omega | (simp; omega)) _ | refine Below.setCell ?_ (by first | (simp; done) | omega | (simp; omega)) _))) hm (by have := hl.out; omega) (rmap (List.map Thing.ofText) rk1) (by rw [HD0.out, get_texts, HK1.out])).mono ?_
      rintro e w3 ⟨A1, n1, c1, q1, rfl, hit1, hat1, hb1⟩
      have x0 : w3.cell? ⟨w.heap.size, 0, none⟩ = some (.string (str [])) := kcell hb1 (by go_simp; rfl)
      have x1 : w3.cell? ⟨w.heap.size, 1, none⟩ = some (.slice none 0 0) := kcell hb1 (by go_simp)
      have x2 : w3.cell? ⟨w.heap.size, 2, none⟩ = some (.slice none 0 0) := kcell hb1 (by go_simp)
      have p0 : w3.cell? ⟨w.heap.size + 1, 0, none⟩ = some (.string (str [])) := kcell hb1 (by go_simp; rfl)
      have p1 : w3.cell? ⟨w.heap.size + 1, 1, none⟩ = some (.slice none 0 0) := kcell hb1 (by go_simp)
      have p2 : w3.cell? ⟨w.heap.size + 1, 2, none⟩ = some (.slice none 0 0) := kcell hb1 (by go_simp)
      have fy0 : w3.frozen? ⟨w.heap.size, 0, none⟩ = false := kfroz hb1 (by first | (simp; done) | (simp; omega)) (by go_simp)
      have fy1 : w3.frozen? ⟨w.heap.size, 1, none⟩ = false := kfroz hb1 (by first | (simp; done) | (simp; omega)) (by go_simp)
      have fy2 : w3.frozen? ⟨w.heap.size, 2, none⟩ = false := kfroz hb1 (by first | (simp; done) | (simp; omega)) (by go_simp)
      have fz0 : w3.frozen? ⟨w.heap.size + 1, 0, none⟩ = false := kfroz hb1 (by first | (simp; done) | (simp; omega)) (by go_simp)
      have fz1 : w3.frozen? ⟨w.heap.size + 1, 1, none⟩ = false := kfroz hb1 (by first | (simp; done) | (simp; omega)) (by go_simp)
      have fz2 : w3.frozen? ⟨w.heap.size + 1, 2, none⟩ = false := kfroz hb1 (by first | (simp; done) | (simp; omega)) (by go_simp)
      have hbel1 : Below w.heap.size w w3 := Below.trans (by repeat (first | exact Below.refl _ _ | assumption | refine Below.drew ?_ | refine below_drewN ?_ _ | refine Below.alloc ?_ (by first | (simp; done) | omega | (simp; omega)) _ | refine Below.setCell ?_ (by first | (simp; done) | omega | (simp; omega)) _)) (hb1.mono (by simp; omega))
      have hz1 : w.heap.size + 1 < w3.heap.size := World.block_lt_of_cell? w3 ⟨w.heap.size + 1, 0, none⟩ p0
      have hrer : rerr (rmap (List.map Thing.ofText) rk1) = rerr rk1 := rerr_rmap _ _
      rw [hrer]
      clear hrer
      cases rk1 with
      | error ek =>
        have hne : ek ≠ 0 := gts_ne HK1.out
        try simp only [rerr_error]
        obtain rfl := readR_c_err HR1.out HF1.out (partR_1 HK1.out)
        clear HR1
        go_wp2_with fail
        refine bodyPost_ret (v := .tuple #[.agg #[.string (str []), .slice none 0 0, .slice none 0 0], .int .i64 0, .int .i64 ek]) (by simp [results, Try.results13, go_sem, str, x0, x1, x2]) rfl ?_
        exact ⟨_, _, _, _, _, _, 0, rfl, IT.nil, IT.nil, AtR.err, (by repeat (first | exact Below.refl _ _ | assumption | refine Below.drew ?_ | refine below_drewN ?_ _ | refine Below.alloc ?_ (by first | (simp; done) | omega | (simp; omega)) _ | refine Below.setCell ?_ (by first | (simp; done) | omega | (simp; omega)) _))⟩
      | ok pk =>
        obtain ⟨y11, u1⟩ := pk
        have hle1 : q1 ≤ bs.length := (AtR.rmap hat1 rfl).1
        have HD2 : Hid (bs.drop q1 = u1) := (AtR.rmap hat1 rfl).2
        have HR2 := Lib.hid (readR_c_ok HR1.out HF1.out (partR_1 HK1.out))
        have HI1 : Hid (IT (w.heap.size + 2) w3 A1 n1 c1 (y11.map Thing.ofText)) := IT.mono (base := _) hit1 (by first | (simp; done) | (simp; omega))
        try simp only [rerr_ok]
        clear hat1 HR1 hit1
        cases hf2 : flagB f 4 with
        | false =>
          have hq2 := flag_int hf2
          have hq2 : (((f : Int) / 4 % 2) == 1) = false := hq2
          have HR3 := Lib.hid (readR_c_skip HR2.out hf2)
          clear hf2 HR2
          have h0 : r = .ok (⟨[], y11, []⟩, u1) := HR3.out.symm
          subst h0
          clear HR3
          try simp only [rerr_ok, rval_ok]
          go_wp2_with fail
          refine bodyPost_ret (v := .tuple #[.agg #[.string (str []), .slice A1 n1 c1, .slice none 0 0], .int .i64 (q1 : Int), .int .i64 0]) (by simp [results, Try.results13, go_sem, str, x0, x1, x2]) rfl ?_
          exact ⟨A1, n1, c1, none, 0, 0, q1, rfl, (((((HI1.out.set (by simp) _).set (by first | (simp; done) | (simp; omega)) _).set (by first | (simp; done) | (simp; omega)) _).set (by first | (simp; done) | (simp; omega)) _).mono (by omega)), IT.nil, AtR.ok (by have := hl.out; omega) HD2.out, (by repeat (first | exact Below.refl _ _ | assumption | refine Below.drew ?_ | refine below_drewN ?_ _ | refine Below.alloc ?_ (by first | (simp; done) | omega | (simp; omega)) _ | refine Below.setCell ?_ (by first | (simp; done) | omega | (simp; omega)) _))⟩
        | true =>
          have hq2 : (((f : Int) / 4 % 2) == 1) = true := flag_int hf2
          have HF2 := Lib.hid hf2; clear hf2
          obtain ⟨rk2, hrk⟩ : ∃ rk, getL entryR (u1) = rk := ⟨_, rfl⟩
          have HK2 := Lib.hid hrk; clear hrk
          go_wp2_with fail
          refine (rgeti3_any (HS.out.after (by repeat (first | exact Below.refl _ _ | assumption | refine Below.drew ?_ | refine below_drewN ?_ _ | refine Below.alloc ?_ (by first | (simp; done) | omega | (simp; omega)) _ | refine Below.setCell ?_ (by first | (simp; done) | omega | (simp; omega)) _))) hm (by have := hl.out; omega) (rmap (List.map Thing.ofEntry) rk2) (by rw [HD2.out, get_entries, HK2.out])).mono ?_
          rintro e w4 ⟨A2, n2, c2, q2, rfl, hit2, hat2, hb2⟩
          have x0 : w4.cell? ⟨w.heap.size, 0, none⟩ = some (.string (str [])) := kcell hb2 (by go_simp)
          have x1 : w4.cell? ⟨w.heap.size, 1, none⟩ = some (.slice none 0 0) := kcell hb2 (by go_simp)
          have x2 : w4.cell? ⟨w.heap.size, 2, none⟩ = some (.slice none 0 0) := kcell hb2 (by go_simp)
          have p0 : w4.cell? ⟨w.heap.size + 1, 0, none⟩ = some (.string (str [])) := kcell hb2 (by go_simp)
          have p1 : w4.cell? ⟨w.heap.size + 1, 1, none⟩ = some (.slice A1 n1 c1) := kcell hb2 (by go_simp)
          have p2 : w4.cell? ⟨w.heap.size + 1, 2, none⟩ = some (.slice none 0 0) := kcell hb2 (by go_simp)
          have fy0 : w4.frozen? ⟨w.heap.size, 0, none⟩ = false := kfroz hb2 (by first | (simp; done) | (simp; omega)) (by go_simp)
          have fy1 : w4.frozen? ⟨w.heap.size, 1, none⟩ = false := kfroz hb2 (by first | (simp; done) | (simp; omega)) (by go_simp)
          have fy2 : w4.frozen? ⟨w.heap.size, 2, none⟩ = false := kfroz hb2 (by first | (simp; done) | (simp; omega)) (by go_simp)
          have fz0 : w4.frozen? ⟨w.heap.size + 1, 0, none⟩ = false := kfroz hb2 (by first | (simp; done) | (simp; omega)) (by go_simp)
          have fz1 : w4.frozen? ⟨w.heap.size + 1, 1, none⟩ = false := kfroz hb2 (by first | (simp; done) | (simp; omega)) (by go_simp)
          have fz2 : w4.frozen? ⟨w.heap.size + 1, 2, none⟩ = false := kfroz hb2 (by first | (simp; done) | (simp; omega)) (by go_simp)
          have hbel2 : Below w.heap.size w w4 := Below.trans (by repeat (first | exact Below.refl _ _ | assumption | refine Below.drew ?_ | refine below_drewN ?_ _ | refine Below.alloc ?_ (by first | (simp; done) | omega | (simp; omega)) _ | refine Below.setCell ?_ (by first | (simp; done) | omega | (simp; omega)) _)) (hb2.mono (by simp; omega))
          have hz2 : w.heap.size + 1 < w4.heap.size := World.block_lt_of_cell? w4 ⟨w.heap.size + 1, 0, none⟩ p0
          have hrer : rerr (rmap (List.map Thing.ofEntry) rk2) = rerr rk2 := rerr_rmap _ _
          rw [hrer]
          clear hrer
          have HW2 := Lib.hid ((HI1.out.set (by simp) _).after hb2)
          cases rk2 with
          | error ek =>
            have hne : ek ≠ 0 := getL_ne (fun _ _ h => er_ne h) HK2.out
            try simp only [rerr_error]
            obtain rfl := readR_c_err HR2.out HF2.out (partR_2 HK2.out)
            clear HR2
            go_wp2_with fail
            refine bodyPost_ret (v := .tuple #[.agg #[.string (str []), .slice none 0 0, .slice none 0 0], .int .i64 0, .int .i64 ek]) (by simp [results, Try.results13, go_sem, str, x0, x1, x2]) rfl ?_
            exact ⟨_, _, _, _, _, _, 0, rfl, IT.nil, IT.nil, AtR.err, (by repeat (first | exact Below.refl _ _ | assumption | refine Below.drew ?_ | refine below_drewN ?_ _ | refine Below.alloc ?_ (by first | (simp; done) | omega | (simp; omega)) _ | refine Below.setCell ?_ (by first | (simp; done) | omega | (simp; omega)) _))⟩
          | ok pk =>
            obtain ⟨y12, u2⟩ := pk
            have hle2 : q2 ≤ bs.length := (AtR.rmap hat2 rfl).1
            have HD3 : Hid (bs.drop q2 = u2) := (AtR.rmap hat2 rfl).2
            have HR3 := Lib.hid (readR_c_ok HR2.out HF2.out (partR_2 HK2.out))
            have HI2 : Hid (IT (w.heap.size + 2) w4 A2 n2 c2 (y12.map Thing.ofEntry)) := IT.mono (base := _) hit2 (by first | (simp; done) | (simp; omega))
            try simp only [rerr_ok]
            clear hat2 HR2 hit2
            have h0 : r = .ok (⟨[], y11, y12⟩, u2) := HR3.out.symm
            subst h0
            clear HR3
            try simp only [rerr_ok, rval_ok]
            go_wp2_with fail
            refine bodyPost_ret (v := .tuple #[.agg #[.string (str []), .slice A1 n1 c1, .slice A2 n2 c2], .int .i64 (q2 : Int), .int .i64 0]) (by simp [results, Try.results13, go_sem, str, x0, x1, x2]) rfl ?_
            exact ⟨A1, n1, c1, A2, n2, c2, q2, rfl, (((((HW2.out.set (by simp) _).set (by first | (simp; done) | (simp; omega)) _).set (by first | (simp; done) | (simp; omega)) _).set (by first | (simp; done) | (simp; omega)) _).mono (by omega)), (((((HI2.out.set (by simp) _).set (by first | (simp; done) | (simp; omega)) _).set (by first | (simp; done) | (simp; omega)) _).set (by first | (simp; done) | (simp; omega)) _).mono (by omega)), AtR.ok (by have := hl.out; omega) HD3.out, (by repeat (first | exact Below.refl _ _ | assumption | refine Below.drew ?_ | refine below_drewN ?_ _ | refine Below.alloc ?_ (by first | (simp; done) | omega | (simp; omega)) _ | refine Below.setCell ?_ (by first | (simp; done) | omega | (simp; omega)) _))⟩
  | true =>
    have hq0 : (((f : Int) / 2 % 2) == 1) = true := flag_int hf0
    have HF0 := Lib.hid hf0; clear hf0
    obtain ⟨rk0, hrk⟩ : ∃ rk, takeN 16 (ub) = rk := ⟨_, rfl⟩
    have HK0 := Lib.hid hrk; clear hrk
    go_wp2_with fail
    refine (run_any (HS.out.after (by repeat (first | exact Below.refl _ _ | assumption | refine Below.drew ?_ | refine below_drewN ?_ _ | refine Below.alloc ?_ (by first | (simp; done) | omega | (simp; omega)) _ | refine Below.setCell ?_ (by first | (simp; done) | omega | (simp; omega)) _))) hm (by have := hl.out; omega) 16 (by omega) rk0 (by rw [HD0.out]; simpa using HK0.out)).mono ?_
    rintro e wr ⟨q0, rfl, hat0, rfl⟩
    cases rk0 with
    | error ek =>
      have hne : ek ≠ 0 := by have := takeN_err HK0.out; omega
      obtain rfl := readR_c_err HR0.out HF0.out (partR_0 HK0.out)
      clear HR0
      go_wp2_with fail
      refine bodyPost_ret (v := .tuple #[.agg #[.string (str []), .slice none 0 0, .slice none 0 0], .int .i64 0, .int .i64 ek]) (by simp [results, Try.results13, go_sem, str]) rfl ?_
      exact ⟨_, _, _, _, _, _, 0, rfl, IT.nil, IT.nil, AtR.err, (by repeat (first | exact Below.refl _ _ | assumption | refine Below.drew ?_ | refine below_drewN ?_ _ | refine Below.alloc ?_ (by first | (simp; done) | omega | (simp; omega)) _ | refine Below.setCell ?_ (by first | (simp; done) | omega | (simp; omega)) _))⟩
    | ok pk =>
      obtain ⟨y0, u0⟩ := pk
      have hle0 := hat0.le
      have HD1 := Lib.hid hat0.drop
      have HR1 := Lib.hid (readR_c_ok HR0.out HF0.out (partR_0 HK0.out))
      try simp only [rval_ok, rerr_ok]
      clear hat0 HR0
      cases hf1 : flagB f 8 with
      | false =>
        have hq1 := flag_int hf1
        have hq1 : (((f : Int) / 8 % 2) == 1) = false := hq1
        have HR2 := Lib.hid (readR_c_skip HR1.out hf1)
        clear hf1 HR1
        cases hf2 : flagB f 4 with
        | false =>
          have hq2 := flag_int hf2
          have hq2 : (((f : Int) / 4 % 2) == 1) = false := hq2
          have HR3 := Lib.hid (readR_c_skip HR2.out hf2)
          clear hf2 HR2
          have h0 : r = .ok (⟨y0, [], []⟩, u0) := HR3.out.symm
          subst h0
          clear HR3
          try simp only [rerr_ok, rval_ok]
          go_wp2_with fail
          refine bodyPost_ret (v := .tuple #[.agg #[.string (str y0), .slice none 0 0, .slice none 0 0], .int .i64 (q0 : Int), .int .i64 0]) (by simp [results, Try.results13, go_sem, str]) rfl ?_
          exact ⟨none, 0, 0, none, 0, 0, q0, rfl, IT.nil, IT.nil, AtR.ok (by have := hl.out; omega) HD1.out, (by repeat (first | exact Below.refl _ _ | assumption | refine Below.drew ?_ | refine below_drewN ?_ _ | refine Below.alloc ?_ (by first | (simp; done) | omega | (simp; omega)) _ | refine Below.setCell ?_ (by first | (simp; done) | omega | (simp; omega)) _))⟩
        | true =>
          have hq2 : (((f : Int) / 4 % 2) == 1) = true := flag_int hf2
          have HF2 := Lib.hid hf2; clear hf2
          obtain ⟨rk2, hrk⟩ : ∃ rk, getL entryR (u0) = rk := ⟨_, rfl⟩
          have HK2 := Lib.hid hrk; clear hrk
          go_wp2_with fail
          refine (rgeti3_any (HS.out.after (by repeat (first | exact Below.refl _ _ | assumption | refine Below.drew ?_ | refine below_drewN ?_ _ | refine Below.alloc ?_ (by first | (simp; done) | omega | (simp; omega)) _ | refine Below.setCell ?_ (by first | (simp; done) | omega | (simp; omega)) _))) hm (by have := hl.out; omega) (rmap (List.map Thing.ofEntry) rk2) (by rw [HD1.out, get_entries, HK2.out])).mono ?_
          rintro e w4 ⟨A2, n2, c2, q2, rfl, hit2, hat2, hb2⟩
          have x0 : w4.cell? ⟨w.heap.size, 0, none⟩ = some (.string (str [])) := kcell hb2 (by go_simp; rfl)
          have x1 : w4.cell? ⟨w.heap.size, 1, none⟩ = some (.slice none 0 0) := kcell hb2 (by go_simp)
          have x2 : w4.cell? ⟨w.heap.size, 2, none⟩ = some (.slice none 0 0) := kcell hb2 (by go_simp)
          have p0 : w4.cell? ⟨w.heap.size + 1, 0, none⟩ = some (.string (str y0)) := kcell hb2 (by go_simp)
          have p1 : w4.cell? ⟨w.heap.size + 1, 1, none⟩ = some (.slice none 0 0) := kcell hb2 (by go_simp)
          have p2 : w4.cell? ⟨w.heap.size + 1, 2, none⟩ = some (.slice none 0 0) := kcell hb2 (by go_simp)
          have fy0 : w4.frozen? ⟨w.heap.size, 0, none⟩ = false := kfroz hb2 (by first | (simp; done) | (simp; omega)) (by go_simp)
          have fy1 : w4.frozen? ⟨w.heap.size, 1, none⟩ = false := kfroz hb2 (by first | (simp; done) | (simp; omega)) (by go_simp)
          have fy2 : w4.frozen? ⟨w.heap.size, 2, none⟩ = false := kfroz hb2 (by first | (simp; done) | (simp; omega)) (by go_simp)
          have fz0 : w4.frozen? ⟨w.heap.size + 1, 0, none⟩ = false := kfroz hb2 (by first | (simp; done) | (simp; omega)) (by go_simp)
          have fz1 : w4.frozen? ⟨w.heap.size + 1, 1, none⟩ = false := kfroz hb2 (by first | (simp; done) | (simp; omega)) (by go_simp)
          have fz2 : w4.frozen? ⟨w.heap.size + 1, 2, none⟩ = false := kfroz hb2 (by first | (simp; done) | (simp; omega)) (by go_simp)
          have hbel2 : Below w.heap.size w w4 := Below.trans (by repeat (first | exact Below.refl _ _ | assumption | refine Below.drew ?_ | refine below_drewN ?_ _ | refine Below.alloc ?_ (by first | (simp; done) | omega | (simp; omega)) _ | refine Below.setCell ?_ (by first | (simp; done) | omega | (simp; omega)) _)) (hb2.mono (by simp; omega))
          have hz2 : w.heap.size + 1 < w4.heap.size := World.block_lt_of_cell? w4 ⟨w.heap.size + 1, 0, none⟩ p0
          have hrer : rerr (rmap (List.map Thing.ofEntry) rk2) = rerr rk2 := rerr_rmap _ _
          rw [hrer]
          clear hrer
          cases rk2 with
          | error ek =>
            have hne : ek ≠ 0 := getL_ne (fun _ _ h => er_ne h) HK2.out
            try simp only [rerr_error]
            obtain rfl := readR_c_err HR2.out HF2.out (partR_2 HK2.out)
            clear HR2
            go_wp2_with fail
            refine bodyPost_ret (v := .tuple #[.agg #[.string (str []), .slice none 0 0, .slice none 0 0], .int .i64 0, .int .i64 ek]) (by simp [results, Try.results13, go_sem, str, x0, x1, x2]) rfl ?_
            exact ⟨_, _, _, _, _, _, 0, rfl, IT.nil, IT.nil, AtR.err, (by repeat (first | exact Below.refl _ _ | assumption | refine Below.drew ?_ | refine below_drewN ?_ _ | refine Below.alloc ?_ (by first | (simp; done) | omega | (simp; omega)) _ | refine Below.setCell ?_ (by first | (simp; done) | omega | (simp; omega)) _))⟩
          | ok pk =>
            obtain ⟨y12, u2⟩ := pk
            have hle2 : q2 ≤ bs.length := (AtR.rmap hat2 rfl).1
            have HD3 : Hid (bs.drop q2 = u2) := (AtR.rmap hat2 rfl).2
            have HR3 := Lib.hid (readR_c_ok HR2.out HF2.out (partR_2 HK2.out))
            have HI2 : Hid (IT (w.heap.size + 2) w4 A2 n2 c2 (y12.map Thing.ofEntry)) := IT.mono (base := _) hit2 (by first | (simp; done) | (simp; omega))
            try simp only [rerr_ok]
            clear hat2 HR2 hit2
            have h0 : r = .ok (⟨y0, [], y12⟩, u2) := HR3.out.symm
            subst h0
            clear HR3
            try simp only [rerr_ok, rval_ok]
            go_wp2_with fail
            refine bodyPost_ret (v := .tuple #[.agg #[.string (str y0), .slice none 0 0, .slice A2 n2 c2], .int .i64 (q2 : Int), .int .i64 0]) (by simp [results, Try.results13, go_sem, str, x0, x1, x2]) rfl ?_
            exact ⟨none, 0, 0, A2, n2, c2, q2, rfl, IT.nil, (((((HI2.out.set (by simp) _).set (by first | (simp; done) | (simp; omega)) _).set (by first | (simp; done) | (simp; omega)) _).set (by first | (simp; done) | (simp; omega)) _).mono (by omega)), AtR.ok (by have := hl.out; omega) HD3.out, (by repeat (first | exact Below.refl _ _ | assumption | refine Below.drew ?_ | refine below_drewN ?_ _ | refine Below.alloc ?_ (by first | (simp; done) | omega | (simp; omega)) _ | refine Below.setCell ?_ (by first | (simp; done) | omega | (simp; omega)) _))⟩
      | true =>
        have hq1 : (((f : Int) / 8 % 2) == 1) = true := flag_int hf1
        have HF1 := Lib.hid hf1; clear hf1
        obtain ⟨rk1, hrk⟩ : ∃ rk, getTexts (u0) = rk := ⟨_, rfl⟩
        have HK1 := Lib.hid hrk; clear hrk
        go_wp2_with fail
        refine (rgeti0_any (HS.out.after (by repeat (first | exact Below.refl _ _ | assumption | refine Below.drew ?_ | refine below_drewN ?_ _ | refine Below.alloc ?_ (by first | (simp; done) | omega | (simp; omega)) _ | refine Below.setCell ?_ (by first | (simp; done) | omega | (simp; omega)) _))) hm (by have := hl.out; omega) (rmap (List.map Thing.ofText) rk1) (by rw [HD1.out, get_texts, HK1.out])).mono ?_
        rintro e w3 ⟨A1, n1, c1, q1, rfl, hit1, hat1, hb1⟩
        have x0 : w3.cell? ⟨w.heap.size, 0, none⟩ = some (.string (str [])) := kcell hb1 (by go_simp; rfl)
        have x1 : w3.cell? ⟨w.heap.size, 1, none⟩ = some (.slice none 0 0) := kcell hb1 (by go_simp)
        have x2 : w3.cell? ⟨w.heap.size, 2, none⟩ = some (.slice none 0 0) := kcell hb1 (by go_simp)
        have p0 : w3.cell? ⟨w.heap.size + 1, 0, none⟩ = some (.string (str y0)) := kcell hb1 (by go_simp)
        have p1 : w3.cell? ⟨w.heap.size + 1, 1, none⟩ = some (.slice none 0 0) := kcell hb1 (by go_simp)
        have p2 : w3.cell? ⟨w.heap.size + 1, 2, none⟩ = some (.slice none 0 0) := kcell hb1 (by go_simp)
        have fy0 : w3.frozen? ⟨w.heap.size, 0, none⟩ = false := kfroz hb1 (by first | (simp; done) | (simp; omega)) (by go_simp)
        have fy1 : w3.frozen? ⟨w.heap.size, 1, none⟩ = false := kfroz hb1 (by first | (simp; done) | (simp; omega)) (by go_simp)
        have fy2 : w3.frozen? ⟨w.heap.size, 2, none⟩ = false := kfroz hb1 (by first | (simp; done) | (simp; omega)) (by go_simp)
        have fz0 : w3.frozen? ⟨w.heap.size + 1, 0, none⟩ = false := kfroz hb1 (by first | (simp; done) | (simp; omega)) (by go_simp)
        have fz1 : w3.frozen? ⟨w.heap.size + 1, 1, none⟩ = false := kfroz hb1 (by first | (simp; done) | (simp; omega)) (by go_simp)
        have fz2 : w3.frozen? ⟨w.heap.size + 1, 2, none⟩ = false := kfroz hb1 (by first | (simp; done) | (simp; omega)) (by go_simp)
        have hbel1 : Below w.heap.size w w3 := Below.trans (by repeat (first | exact Below.refl _ _ | assumption | refine Below.drew ?_ | refine below_drewN ?_ _ | refine Below.alloc ?_ (by first | (simp; done) | omega | (simp; omega)) _ | refine Below.setCell ?_ (by first | (simp; done) | omega | (simp; omega)) _)) (hb1.mono (by simp; omega))
        have hz1 : w.heap.size + 1 < w3.heap.size := World.block_lt_of_cell? w3 ⟨w.heap.size + 1, 0, none⟩ p0
        have hrer : rerr (rmap (List.map Thing.ofText) rk1) = rerr rk1 := rerr_rmap _ _
        rw [hrer]
        clear hrer
        cases rk1 with
        | error ek =>
          have hne : ek ≠ 0 := gts_ne HK1.out
          try simp only [rerr_error]
          obtain rfl := readR_c_err HR1.out HF1.out (partR_1 HK1.out)
          clear HR1
          go_wp2_with fail
          refine bodyPost_ret (v := .tuple #[.agg #[.string (str []), .slice none 0 0, .slice none 0 0], .int .i64 0, .int .i64 ek]) (by simp [results, Try.results13, go_sem, str, x0, x1, x2]) rfl ?_
          exact ⟨_, _, _, _, _, _, 0, rfl, IT.nil, IT.nil, AtR.err, (by repeat (first | exact Below.refl _ _ | assumption | refine Below.drew ?_ | refine below_drewN ?_ _ | refine Below.alloc ?_ (by first | (simp; done) | omega | (simp; omega)) _ | refine Below.setCell ?_ (by first | (simp; done) | omega | (simp; omega)) _))⟩
        | ok pk =>
          obtain ⟨y11, u1⟩ := pk
          have hle1 : q1 ≤ bs.length := (AtR.rmap hat1 rfl).1
          have HD2 : Hid (bs.drop q1 = u1) := (AtR.rmap hat1 rfl).2
          have HR2 := Lib.hid (readR_c_ok HR1.out HF1.out (partR_1 HK1.out))
          have HI1 : Hid (IT (w.heap.size + 2) w3 A1 n1 c1 (y11.map Thing.ofText)) := IT.mono (base := _) hit1 (by first | (simp; done) | (simp; omega))
          try simp only [rerr_ok]
          clear hat1 HR1 hit1
          cases hf2 : flagB f 4 with
          | false =>
            have hq2 := flag_int hf2
            have hq2 : (((f : Int) / 4 % 2) == 1) = false := hq2
            have HR3 := Lib.hid (readR_c_skip HR2.out hf2)
            clear hf2 HR2
            have h0 : r = .ok (⟨y0, y11, []⟩, u1) := HR3.out.symm
            subst h0
            clear HR3
            try simp only [rerr_ok, rval_ok]
            go_wp2_with fail
            refine bodyPost_ret (v := .tuple #[.agg #[.string (str y0), .slice A1 n1 c1, .slice none 0 0], .int .i64 (q1 : Int), .int .i64 0]) (by simp [results, Try.results13, go_sem, str, x0, x1, x2]) rfl ?_
            exact ⟨A1, n1, c1, none, 0, 0, q1, rfl, (((((HI1.out.set (by simp) _).set (by first | (simp; done) | (simp; omega)) _).set (by first | (simp; done) | (simp; omega)) _).set (by first | (simp; done) | (simp; omega)) _).mono (by omega)), IT.nil, AtR.ok (by have := hl.out; omega) HD2.out, (by repeat (first | exact Below.refl _ _ | assumption | refine Below.drew ?_ | refine below_drewN ?_ _ | refine Below.alloc ?_ (by first | (simp; done) | omega | (simp; omega)) _ | refine Below.setCell ?_ (by first | (simp; done) | omega | (simp; omega)) _))⟩
          | true =>
            have hq2 : (((f : Int) / 4 % 2) == 1) = true := flag_int hf2
            have HF2 := Lib.hid hf2; clear hf2
            obtain ⟨rk2, hrk⟩ : ∃ rk, getL entryR (u1) = rk := ⟨_, rfl⟩
            have HK2 := Lib.hid hrk; clear hrk
            go_wp2_with fail
            refine (rgeti3_any (HS.out.after (by repeat (first | exact Below.refl _ _ | assumption | refine Below.drew ?_ | refine below_drewN ?_ _ | refine Below.alloc ?_ (by first | (simp; done) | omega | (simp; omega)) _ | refine Below.setCell ?_ (by first | (simp; done) | omega | (simp; omega)) _))) hm (by have := hl.out; omega) (rmap (List.map Thing.ofEntry) rk2) (by rw [HD2.out, get_entries, HK2.out])).mono ?_
            rintro e w4 ⟨A2, n2, c2, q2, rfl, hit2, hat2, hb2⟩
            have x0 : w4.cell? ⟨w.heap.size, 0, none⟩ = some (.string (str [])) := kcell hb2 (by go_simp)
            have x1 : w4.cell? ⟨w.heap.size, 1, none⟩ = some (.slice none 0 0) := kcell hb2 (by go_simp)
            have x2 : w4.cell? ⟨w.heap.size, 2, none⟩ = some (.slice none 0 0) := kcell hb2 (by go_simp)
            have p0 : w4.cell? ⟨w.heap.size + 1, 0, none⟩ = some (.string (str y0)) := kcell hb2 (by go_simp)
            have p1 : w4.cell? ⟨w.heap.size + 1, 1, none⟩ = some (.slice A1 n1 c1) := kcell hb2 (by go_simp)
            have p2 : w4.cell? ⟨w.heap.size + 1, 2, none⟩ = some (.slice none 0 0) := kcell hb2 (by go_simp)
            have fy0 : w4.frozen? ⟨w.heap.size, 0, none⟩ = false := kfroz hb2 (by first | (simp; done) | (simp; omega)) (by go_simp)
            have fy1 : w4.frozen? ⟨w.heap.size, 1, none⟩ = false := kfroz hb2 (by first | (simp; done) | (simp; omega)) (by go_simp)
            have fy2 : w4.frozen? ⟨w.heap.size, 2, none⟩ = false := kfroz hb2 (by first | (simp; done) | (simp; omega)) (by go_simp)
            have fz0 : w4.frozen? ⟨w.heap.size + 1, 0, none⟩ = false := kfroz hb2 (by first | (simp; done) | (simp; omega)) (by go_simp)
            have fz1 : w4.frozen? ⟨w.heap.size + 1, 1, none⟩ = false := kfroz hb2 (by first | (simp; done) | (simp; omega)) (by go_simp)
            have fz2 : w4.frozen? ⟨w.heap.size + 1, 2, none⟩ = false := kfroz hb2 (by first | (simp; done) | (simp; omega)) (by go_simp)
            have hbel2 : Below w.heap.size w w4 := Below.trans (by repeat (first | exact Below.refl _ _ | assumption | refine Below.drew ?_ | refine below_drewN ?_ _ | refine Below.alloc ?_ (by first | (simp; done) | omega | (simp; omega)) _ | refine Below.setCell ?_ (by first | (simp; done) | omega | (simp; omega)) _)) (hb2.mono (by simp; omega))
            have hz2 : w.heap.size + 1 < w4.heap.size := World.block_lt_of_cell? w4 ⟨w.heap.size + 1, 0, none⟩ p0
            have hrer : rerr (rmap (List.map Thing.ofEntry) rk2) = rerr rk2 := rerr_rmap _ _
            rw [hrer]
            clear hrer
            have HW2 := Lib.hid ((HI1.out.set (by simp) _).after hb2)
            cases rk2 with
            | error ek =>
              have hne : ek ≠ 0 := getL_ne (fun _ _ h => er_ne h) HK2.out
              try simp only [rerr_error]
              obtain rfl := readR_c_err HR2.out HF2.out (partR_2 HK2.out)
              clear HR2
              go_wp2_with fail
              refine bodyPost_ret (v := .tuple #[.agg #[.string (str []), .slice none 0 0, .slice none 0 0], .int .i64 0, .int .i64 ek]) (by simp [results, Try.results13, go_sem, str, x0, x1, x2]) rfl ?_
              exact ⟨_, _, _, _, _, _, 0, rfl, IT.nil, IT.nil, AtR.err, (by repeat (first | exact Below.refl _ _ | assumption | refine Below.drew ?_ | refine below_drewN ?_ _ | refine Below.alloc ?_ (by first | (simp; done) | omega | (simp; omega)) _ | refine Below.setCell ?_ (by first | (simp; done) | omega | (simp; omega)) _))⟩
            | ok pk =>
              obtain ⟨y12, u2⟩ := pk
              have hle2 : q2 ≤ bs.length := (AtR.rmap hat2 rfl).1
              have HD3 : Hid (bs.drop q2 = u2) := (AtR.rmap hat2 rfl).2
              have HR3 := Lib.hid (readR_c_ok HR2.out HF2.out (partR_2 HK2.out))
              have HI2 : Hid (IT (w.heap.size + 2) w4 A2 n2 c2 (y12.map Thing.ofEntry)) := IT.mono (base := _) hit2 (by first | (simp; done) | (simp; omega))
              try simp only [rerr_ok]
              clear hat2 HR2 hit2
              have h0 : r = .ok (⟨y0, y11, y12⟩, u2) := HR3.out.symm
              subst h0
              clear HR3
              try simp only [rerr_ok, rval_ok]
              go_wp2_with fail
              refine bodyPost_ret (v := .tuple #[.agg #[.string (str y0), .slice A1 n1 c1, .slice A2 n2 c2], .int .i64 (q2 : Int), .int .i64 0]) (by simp [results, Try.results13, go_sem, str, x0, x1, x2]) rfl ?_
              exact ⟨A1, n1, c1, A2, n2, c2, q2, rfl, (((((HW2.out.set (by simp) _).set (by first | (simp; done) | (simp; omega)) _).set (by first | (simp; done) | (simp; omega)) _).set (by first | (simp; done) | (simp; omega)) _).mono (by omega)), (((((HI2.out.set (by simp) _).set (by first | (simp; done) | (simp; omega)) _).set (by first | (simp; done) | (simp; omega)) _).set (by first | (simp; done) | (simp; omega)) _).mono (by omega)), AtR.ok (by have := hl.out; omega) HD3.out, (by repeat (first | exact Below.refl _ _ | assumption | refine Below.drew ?_ | refine below_drewN ?_ _ | refine Below.alloc ?_ (by first | (simp; done) | omega | (simp; omega)) _ | refine Below.setCell ?_ (by first | (simp; done) | omega | (simp; omega)) _))⟩
end Go.Proofs.Sb
