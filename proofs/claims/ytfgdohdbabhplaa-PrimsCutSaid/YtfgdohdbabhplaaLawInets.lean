/- The walk over signalboxlaw02.PrimsInets: true at every input, and nothing that was there has turned. Conditions: none. -/
import Derived.Test.YtfgdohdbabhplaaLawb
import Derived.Test.YtfgdohdbabhplaaPrimsc
import Derived.Test.YtfgdohdbabhplaaRefbb
import Derived.Test.YtfgdohdbabhplaaLawValues
set_option linter.unusedVariables false
set_option linter.unusedSimpArgs false
namespace Go.Proofs.Sb
open Go.RowKit _root_.Sb

theorem inet_ne {a : Adr} {e : Int} (h : inet a = .error e) : e ≠ 0 := by
  unfold inet at h
  split at h
  · cases h
  · injection h with h; omega
theorem cons_ne {c : Nat} {e : Int} (h : cons c = .error e) : e ≠ 0 := by
  unfold cons at h
  split at h
  · injection h with h; omega
  · cases h
theorem getInet_ne {b : B} {e : Int} (h : getInet b = .error e) : e ≠ 0 := by
  unfold getInet at h
  cases h1 : getN 1 b with
  | error e1 => rw [h1] at h; injection h with h; have := getN_err h1; omega
  | ok p =>
    rw [h1] at h
    simp only at h
    split at h
    · cases h2 : takeN p.1 p.2 with
      | error e2 => rw [h2] at h; injection h with h; have := takeN_err h2; omega
      | ok p2 =>
        rw [h2] at h
        simp only at h
        cases h3 : getN 4 p2.2 with
        | error e3 => rw [h3] at h; injection h with h; have := getN_err h3; omega
        | ok p3 => rw [h3] at h; cases h
    · injection h with h; omega
theorem getCons_ne {b : B} {e : Int} (h : getCons b = .error e) : e ≠ 0 := by
  unfold getCons at h
  cases h1 : getN 2 b with
  | error e1 => rw [h1] at h; injection h with h; have := getN_err h1; omega
  | ok p =>
    rw [h1] at h
    simp only at h
    split at h
    · injection h with h; omega
    · cases h

set_option maxHeartbeats 4000000 in
set_option maxRecDepth 100000 in
theorem primsInets_small {S S' : Nat → Prop} {A A0 : Option Addr} {m c n0 c0 : Nat} {bs ad : B} {port k : Nat} {w : World} (hv : Sl S' w A0 n0 c0 ad) (hs : Sl S w A m c bs) (hp : port < 4294967296) (hk : k < 65536) (hn : n0 ≤ 300) (hm : m ≤ 300) :
    Calls Try.prog 12 #[.agg #[.slice A0 n0 c0, .int .u32 (port : Int)], .int .u16 (k : Int), .slice A m c] w fun e w' => e = .returned (.bool true) ∧ Below w.heap.size w w' := by
  have hvl := Lib.hid hv.len
  have hvc := hv.cap
  have hvm := hv.capMax
  have hsc := hs.cap
  have hsm := hs.capMax
  have HV := Lib.hid hv; clear hv
  have HS := Lib.hid hs; clear hs
  obtain ⟨ri, hri⟩ : ∃ r, inet ⟨ad, port⟩ = r := ⟨_, rfl⟩
  have HI := Lib.hid hri; clear hri
  obtain ⟨rc, hrc⟩ : ∃ r, cons k = r := ⟨_, rfl⟩
  have HC := Lib.hid hrc; clear hrc
  obtain ⟨rg, hrg⟩ : ∃ r, getInet bs = r := ⟨_, rfl⟩
  have HG := Lib.hid hrg; clear hrg
  obtain ⟨rd, hrd⟩ : ∃ r, getCons bs = r := ⟨_, rfl⟩
  have HD := Lib.hid hrd; clear hrd
  go_enter Try.func12, Try.ntmps12
  go_wp2_with fail
  refine (awake2 _).mono ?_
  rintro e w1 ⟨rfl, hb1⟩
  have p0 : w1.cell? ⟨w.heap.size, 0, none⟩ = some (.slice A0 n0 c0) := keep_cell hb1 (by go_simp)
  have p1 : w1.cell? ⟨w.heap.size, 1, none⟩ = some (.int .u32 (port : Int)) := keep_cell hb1 (by go_simp)
  have hb1 : Below w.heap.size w w1 := Below.trans (by repeat (first | exact Below.refl _ _ | assumption | refine Below.drew ?_ | refine below_drewN ?_ _ | refine Below.alloc ?_ (by simp) _ | refine Below.setCell ?_ (by simp) _)) (hb1.mono (by simp))
  have hz1 := hb1.size
  go_wp2_with fail
  refine (inet_any (a := ⟨ad, port⟩) (HV.out.after hb1) hp ri HI.out).mono ?_
  rintro e w2 ⟨A2, m2, c2, rfl, ho2, hb2⟩
  replace p0 := keep_cell hb2 p0
  replace p1 := keep_cell hb2 p1
  have bel2 : Below w.heap.size w w2 := Below.trans hb1 (hb2.mono hz1)
  have hz2 := bel2.size
  have hcv := conv_sl (HV.out.after bel2)
  go_wp2_with fail
  refine (rinet_any hp (by have := hvl.out; omega) ri HI.out).mono ?_
  rintro e w3 ⟨A3, m3, c3, rfl, ho3, hb3⟩
  clear hcv p0 p1
  have bel3 : Below w.heap.size w w3 := Below.trans bel2 (hb3.mono hz2)
  have hz3 := bel3.size
  go_wp2_with fail
  refine (consis_any _ _ (by omega) (by omega) rc (by simpa using HC.out)).mono ?_
  rintro e w4 ⟨A4, m4, c4, rfl, ho4, hb4⟩
  have bel4 : Below w.heap.size w w4 := Below.trans bel3 (hb4.mono hz3)
  have hz4 := bel4.size
  go_wp2_with fail
  refine (rcons_any _ _ (by omega) (by omega) rc (by simpa using HC.out)).mono ?_
  rintro e w5 ⟨A5, m5, c5, rfl, ho5, hb5⟩
  have bel5 : Below w.heap.size w w5 := Below.trans bel4 (hb5.mono hz4)
  have hz5 := bel5.size
  have hcv2 := conv_sl (ho2.after (seqB hb3 (seqB hb4 hb5))).sl
  have hcv3 := conv_sl (ho3.after (seqB hb4 hb5)).sl
  have hcv4 := conv_sl (ho4.after hb5).sl
  have hcv5 := conv_sl ho5.sl
  go_wp2_with fail
  have hs5 := HS.out.after bel5
  refine (getInet_any hs5 (by omega) rg HG.out).mono ?_
  rintro e w6 ⟨A6, m6, c6, A7, m7, c7, rfl, hs6, hs7, hb6⟩
  clear hcv2 hcv3 hcv4 hcv5 ho2 ho3 ho4 ho5
  have bel6 : Below w.heap.size w w6 := Below.trans bel5 (hb6.mono hz5)
  have hz6 := bel6.size
  go_wp2_with fail
  have hs6b : Sl S (w6.alloc (.cells #[.slice A6 m6 c6, .int .u32 ((rval Adr.none rg).port : Int)] 83)) A m c bs := HS.out.after (by repeat (first | exact Below.refl _ _ | assumption | refine Below.drew ?_ | refine below_drewN ?_ _ | refine Below.alloc ?_ (by first | (simp; done) | omega | (simp; omega)) _ | refine Below.setCell ?_ (by first | (simp; done) | omega | (simp; omega)) _))
  refine (rgetInet_any (a := 0) hs6b (by omega) (by omega) rg (by simpa using HG.out)).mono ?_
  rintro e w7 ⟨q7, rfl, hq7, hb7⟩
  have p0 : w7.cell? ⟨w6.heap.size, 0, none⟩ = some (.slice A6 m6 c6) := keep_cell hb7 (by go_simp)
  have p1 : w7.cell? ⟨w6.heap.size, 1, none⟩ = some (.int .u32 ((rval Adr.none rg).port : Int)) := keep_cell hb7 (by go_simp)
  have hb7 : Below w6.heap.size w6 w7 := Below.trans (by repeat (first | exact Below.refl _ _ | assumption | refine Below.drew ?_ | refine below_drewN ?_ _ | refine Below.alloc ?_ (by simp) _ | refine Below.setCell ?_ (by simp) _)) (hb7.mono (by simp))
  have bel7 : Below w.heap.size w w7 := Below.trans bel6 (hb7.mono hz6)
  have hsz7 : w6.heap.size < w7.heap.size := World.block_lt_of_cell? _ _ p0
  have hz7 := bel7.size
  go_wp2_with fail
  have hb7c : Below w7.heap.size w7 (w7.alloc (.cells #[.string (str (rval Adr.none rg).addr), .int .u32 ((rval Adr.none rg).port : Int)] 88)) := (Below.refl _ _).alloc (Nat.le_refl _) _
  refine (behind_any (hs7.after (seqB hb7 hb7c)) (HS.out.after (bel7.trans (hb7c.mono hz7))) hq7 (fun e h => getInet_ne (HG.out.trans h))).mono ?_
  rintro e w8 ⟨rfl, hb8⟩
  have hcv := conv_sl (hs6.after (seqB (seqB hb7 hb7c) hb8))
  have r0 : w8.cell? ⟨w7.heap.size, 0, none⟩ = some (.string (str (rval Adr.none rg).addr)) := keep_cell hb8 (by go_simp)
  have r1 : w8.cell? ⟨w7.heap.size, 1, none⟩ = some (.int .u32 ((rval Adr.none rg).port : Int)) := keep_cell hb8 (by go_simp)
  have p06 := keep_cell (seqB hb7c hb8) p0
  have p16 := keep_cell (seqB hb7c hb8) p1
  have bel8 : Below w.heap.size w w8 := Below.trans (bel7.trans (hb7c.mono hz7)) (hb8.mono (by simp; omega))
  have hz8 := bel8.size
  clear p0 p1 hq7
  go_wp2_with fail
  refine (getCons_any (HS.out.after bel8) rd HD.out).mono ?_
  rintro e w9 ⟨A9, m9, c9, rfl, hs9, hb9⟩
  clear hcv r0 r1 p06 p16
  have bel9 : Below w.heap.size w w9 := Below.trans bel8 (hb9.mono hz8)
  have hz9 := bel9.size
  go_wp2_with fail
  refine (rgetCons_any (a := 0) (HS.out.after bel9) (by omega) rd (by simpa using HD.out)).mono ?_
  rintro e w10 ⟨q10, rfl, hq10, rfl⟩
  go_wp2_with fail
  refine (behind_any hs9 (HS.out.after bel9) hq10 (fun e h => getCons_ne (HD.out.trans h))).mono ?_
  rintro e w11 ⟨rfl, hb11⟩
  clear hq10
  go_wp2_with fail
  go_ret
  exact ⟨by simp, bel9.trans (hb11.mono hz9)⟩

set_option maxRecDepth 100000 in
theorem primsInets_any {S S' : Nat → Prop} {A A0 : Option Addr} {m c n0 c0 : Nat} {bs ad : B} {port k : Nat} {w : World} (hv : Sl S' w A0 n0 c0 ad) (hs : Sl S w A m c bs) (hp : port < 4294967296) (hk : k < 65536) :
    Calls Try.prog 12 #[.agg #[.slice A0 n0 c0, .int .u32 (port : Int)], .int .u16 (k : Int), .slice A m c] w fun e w' => e = .returned (.bool true) ∧ Below w.heap.size w w' := by
  by_cases h : n0 ≤ 300 ∧ m ≤ 300
  · exact primsInets_small hv hs hp hk h.1 h.2
  · have hmc := hs.cap
    have hcm := hs.capMax
    have hmc0 := hv.cap
    have hcm0 := hv.capMax
    have hx : 300 < n0 ∨ 300 < m := by omega
    clear h hs hv
    by_cases h2 : 300 < n0
    · clear hx
      go_enter Try.func12, Try.ntmps12
      go_wp2_with fail
      refine (awake2 _).mono ?_
      rintro e w1 ⟨rfl, hb1⟩
      have p0 : w1.cell? ⟨w.heap.size, 0, none⟩ = some (.slice A0 n0 c0) := keep_cell hb1 (by go_simp)
      have hb1 : Below w.heap.size w w1 := Below.trans (by repeat (first | exact Below.refl _ _ | assumption | refine Below.drew ?_ | refine below_drewN ?_ _ | refine Below.alloc ?_ (by simp) _ | refine Below.setCell ?_ (by simp) _)) (hb1.mono (by simp))
      go_wp2_with fail
      go_ret
      exact ⟨rfl, hb1⟩
    · have h3 : 300 < m := by omega
      clear hx
      go_enter Try.func12, Try.ntmps12
      go_wp2_with fail
      refine (awake2 _).mono ?_
      rintro e w1 ⟨rfl, hb1⟩
      have p0 : w1.cell? ⟨w.heap.size, 0, none⟩ = some (.slice A0 n0 c0) := keep_cell hb1 (by go_simp)
      have hb1 : Below w.heap.size w w1 := Below.trans (by repeat (first | exact Below.refl _ _ | assumption | refine Below.drew ?_ | refine below_drewN ?_ _ | refine Below.alloc ?_ (by simp) _ | refine Below.setCell ?_ (by simp) _)) (hb1.mono (by simp))
      go_wp2_with fail
      go_ret
      exact ⟨rfl, hb1⟩
end Go.Proofs.Sb
