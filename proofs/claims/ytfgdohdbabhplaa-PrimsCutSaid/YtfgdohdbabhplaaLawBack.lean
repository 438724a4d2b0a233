/- The walk over signalboxlaw02.PrimsBack: true at every input, and nothing that was there has turned. Conditions: what is behind within the form's reach. -/
import Derived.Test.YtfgdohdbabhplaaLawInets
import Derived.Test.YtfgdohdbabhplaaPlaine
set_option linter.unusedVariables false
set_option linter.unusedSimpArgs false
namespace Go.Proofs.Sb
open Go.RowKit _root_.Sb

theorem value_le {v : Val} {b : B} (h : value v = .ok b) : b.length ≤ 4 + v.bytes.length := value_len h
theorem inet_le {a : Adr} {b : B} (h : inet a = .ok b) : b.length ≤ 21 := by
  obtain ⟨h1, rfl⟩ := inet_parts h
  rw [List.length_append, List.length_append, enc_length, enc_length]
  omega
theorem cons_le {c : Nat} {b : B} (h : cons c = .ok b) : b.length ≤ 2 := by
  unfold cons at h
  split at h
  · cases h
  · injection h with h; subst h; rw [enc_length]; omega

set_option maxHeartbeats 8000000 in
set_option maxRecDepth 100000 in
theorem primsBack_small {S S1 S2 : Nat → Prop} {A A0 A1 : Option Addr} {m c m0 c0 n1 c1 : Nat} {s bs vb ad : B} {vk : Int} {port k : Nat} {w : World} (hv : Sl S1 w A0 m0 c0 vb) (ha : Sl S2 w A1 n1 c1 ad) (hp : port < 4294967296) (hk : k < 65536) (hs : Sl S w A m c bs) (hm : m ≤ 140737488351232) (hl : s.length ≤ 1000) (hm0 : m0 ≤ 1000) :
    Calls Try.prog 14 #[.string (str s), .agg #[.int .i64 vk, .slice A0 m0 c0], .agg #[.slice A1 n1 c1, .int .u32 (port : Int)], .int .u16 (k : Int), .slice A m c] w fun e w' => e = .returned (.bool true) ∧ Below w.heap.size w w' := by
  have hvl := Lib.hid hv.len
  have hvc := hv.cap
  have hvm := hv.capMax
  have hac := ha.cap
  have ham := ha.capMax
  have hsc := hs.cap
  have hsm := hs.capMax
  have hsl := Lib.hid hs.len
  have HV := Lib.hid hv; clear hv
  have HA := Lib.hid ha; clear ha
  have HS := Lib.hid hs; clear hs
  obtain ⟨rt, hrt⟩ : ∃ r, text s = r := ⟨_, rfl⟩
  have HT := Lib.hid hrt; clear hrt
  obtain ⟨rv, hrv⟩ : ∃ r, value ⟨vk, vb⟩ = r := ⟨_, rfl⟩
  have HW := Lib.hid hrv; clear hrv
  obtain ⟨ri, hri⟩ : ∃ r, inet ⟨ad, port⟩ = r := ⟨_, rfl⟩
  have HI := Lib.hid hri; clear hri
  obtain ⟨rc, hrc⟩ : ∃ r, cons k = r := ⟨_, rfl⟩
  have HC := Lib.hid hrc; clear hrc
  go_enter Try.func14, Try.ntmps14
  go_wp2_with fail
  refine (awake2 _).mono ?_
  rintro e w1 ⟨rfl, hb1⟩
  have p0 : w1.cell? ⟨w.heap.size, 0, none⟩ = some (.int .i64 vk) := keep_cell hb1 (by go_simp)
  have p1 : w1.cell? ⟨w.heap.size, 1, none⟩ = some (.slice A0 m0 c0) := keep_cell hb1 (by go_simp)
  have q0 : w1.cell? ⟨w.heap.size + 1, 0, none⟩ = some (.slice A1 n1 c1) := keep_cell hb1 (by go_simp)
  have q1 : w1.cell? ⟨w.heap.size + 1, 1, none⟩ = some (.int .u32 (port : Int)) := keep_cell hb1 (by go_simp)
  have hb1 : Below w.heap.size w w1 := Below.trans (by repeat (first | exact Below.refl _ _ | assumption | refine Below.drew ?_ | refine below_drewN ?_ _ | refine Below.alloc ?_ (by first | (simp; done) | omega | (simp; omega)) _ | refine Below.setCell ?_ (by first | (simp; done) | omega | (simp; omega)) _)) (hb1.mono (by simp; omega))
  have hz1 := hb1.size
  go_wp2_with fail
  refine (text_any s _ (by omega) rt HT.out).mono ?_
  rintro e w2 ⟨B2, n2, c2, rfl, ho2, hb2⟩
  replace p0 := keep_cell hb2 p0
  replace p1 := keep_cell hb2 p1
  replace q0 := keep_cell hb2 q0
  replace q1 := keep_cell hb2 q1
  have bel2 : Below w.heap.size w w2 := Below.trans hb1 (hb2.mono hz1)
  have hz2 := bel2.size
  go_wp2_with fail
  refine (value_any (v := ⟨vk, vb⟩) (HV.out.after bel2) (by omega) rv HW.out).mono ?_
  rintro e w3 ⟨B3, n3, c3, rfl, ho3, hb3⟩
  replace p0 := keep_cell hb3 p0
  replace p1 := keep_cell hb3 p1
  replace q0 := keep_cell hb3 q0
  replace q1 := keep_cell hb3 q1
  have bel3 : Below w.heap.size w w3 := Below.trans bel2 (hb3.mono hz2)
  have hz3 := bel3.size
  go_wp2_with fail
  refine (inet_any (a := ⟨ad, port⟩) (HA.out.after bel3) hp ri HI.out).mono ?_
  rintro e w4 ⟨B4, n4, c4, rfl, ho4, hb4⟩
  replace p0 := keep_cell hb4 p0
  replace p1 := keep_cell hb4 p1
  replace q0 := keep_cell hb4 q0
  replace q1 := keep_cell hb4 q1
  have bel4 : Below w.heap.size w w4 := Below.trans bel3 (hb4.mono hz3)
  have hz4 := bel4.size
  go_wp2_with fail
  refine (consis_any _ _ (by omega) (by omega) rc (by simpa using HC.out)).mono ?_
  rintro e w5 ⟨B5, n5, c5, rfl, ho5, hb5⟩
  replace p0 := keep_cell hb5 p0
  replace p1 := keep_cell hb5 p1
  replace q0 := keep_cell hb5 q0
  replace q1 := keep_cell hb5 q1
  have bel5 : Below w.heap.size w w5 := Below.trans bel4 (hb5.mono hz4)
  have hz5 := bel5.size
  cases rt with
  | error et =>
    have hne : et ≠ 0 := text_ne HT.out
    have hne1 : (et == 0) = false := by simpa using hne
    have hne2 : (et != 0) = true := by simpa using hne
    obtain rfl : n2 = 0 := ho2.len
    go_wp2_with fail
    go_ret
    exact ⟨rfl, bel5⟩
  | ok tb =>
    cases rv with
    | error ev =>
      have hne : ev ≠ 0 := value_ne HW.out
      have hne1 : (ev == 0) = false := by simpa using hne
      have hne2 : (ev != 0) = true := by simpa using hne
      obtain rfl : n3 = 0 := ho3.len
      go_wp2_with fail
      go_ret
      exact ⟨rfl, bel5⟩
    | ok xb =>
      cases ri with
      | error ei =>
        have hne : ei ≠ 0 := inet_ne HI.out
        have hne1 : (ei == 0) = false := by simpa using hne
        have hne2 : (ei != 0) = true := by simpa using hne
        obtain rfl : n4 = 0 := ho4.len
        go_wp2_with fail
        go_ret
        exact ⟨rfl, bel5⟩
      | ok yb =>
        cases rc with
        | error ec =>
          have hne : ec ≠ 0 := cons_ne HC.out
          have hne1 : (ec == 0) = false := by simpa using hne
          have hne2 : (ec != 0) = true := by simpa using hne
          obtain rfl : n5 = 0 := ho5.len
          go_wp2_with fail
          go_ret
          exact ⟨rfl, bel5⟩
        | ok zb =>
          have ltb : tb.length ≤ 1002 := by obtain ⟨_, _, e⟩ := text_len HT.out; rw [e, List.length_append, enc_length]; omega
          have lxb : xb.length ≤ 1004 := by have h := value_le HW.out; simp only at h; have := hvl.out; omega
          have lyb : yb.length ≤ 21 := inet_le HI.out
          have lzb : zb.length ≤ 2 := cons_le HC.out
          have lbs : bs.length ≤ 140737488351232 := by have := hsl.out; omega
          have HTs := Lib.hid (ho2.after (seqB hb3 (seqB hb4 hb5))).sl
          have HXs := Lib.hid (ho3.after (seqB hb4 hb5)).sl
          have HYs := Lib.hid (ho4.after hb5).sl
          have HZs := Lib.hid ho5.sl
          simp only [werr_ok, wval_ok] at HTs HXs HYs HZs ⊢
          clear ho2 ho3 ho4 ho5
          have llong : (long s).length ≤ 1004 := by unfold long; rw [List.length_append, enc_length]; omega
          go_wp2_with (first
            | (at_builtin; refine wpList_appw rfl _ _ rfl w5.heap.size _ _ _ ([] ++ tb) rfl o6 _ _ _ _ xb rfl (HXs.out.after k6) (by simp only [List.length_append, List.length_nil]; omega) k6.size ?_; intro D2 d2 f2 w7 o7 g7 _; have k7 : Below w5.heap.size w5 w7 := below_grow k6 g7 k6.size (fun b e => (o6.block b e).1))
            | (at_builtin; refine wpList_appw rfl _ _ rfl w5.heap.size _ _ _ [] rfl Own.nil _ _ _ _ tb rfl HTs.out (by simp only [List.length_nil]; omega) (Nat.le_refl _) ?_; intro D1 d1 f1 w6 o6 g6 _; have k6 : Below w5.heap.size w5 w6 := below_grow (Below.refl _ _) g6 (Nat.le_refl _) (fun b e => by cases e)))
          refine (long_any s _ (by omega)).mono ?_
          rintro e w8 ⟨B6, n6, c6, rfl, ho6, hb8⟩
          have k8 : Below w5.heap.size w5 w8 := Below.trans k7 (hb8.mono k7.size)
          go_wp2_with (first
            | (at_builtin; refine wpList_appw rfl _ _ rfl w5.heap.size _ _ _ ([] ++ tb ++ xb ++ long s ++ yb ++ zb) rfl o11 _ _ _ _ bs rfl (HS.out.after (Below.trans bel5 (k11.mono hz5))) (by simp only [List.length_append, List.length_nil]; omega) k11.size ?_; intro D6 d6 f6 w12 o12 g12 _; have k12 : Below w5.heap.size w5 w12 := below_grow k11 g12 k11.size (fun b e => (o11.block b e).1))
            | (at_builtin; refine wpList_appw rfl _ _ rfl w5.heap.size _ _ _ ([] ++ tb ++ xb ++ long s ++ yb) rfl o10 _ _ _ _ zb rfl (HZs.out.after k10) (by simp only [List.length_append, List.length_nil]; omega) k10.size ?_; intro D5 d5 f5 w11 o11 g11 _; have k11 : Below w5.heap.size w5 w11 := below_grow k10 g11 k10.size (fun b e => (o10.block b e).1))
            | (at_builtin; refine wpList_appw rfl _ _ rfl w5.heap.size _ _ _ ([] ++ tb ++ xb ++ long s) rfl o9 _ _ _ _ yb rfl (HYs.out.after k9) (by simp only [List.length_append, List.length_nil]; omega) k9.size ?_; intro D4 d4 f4 w10 o10 g10 _; have k10 : Below w5.heap.size w5 w10 := below_grow k9 g10 k9.size (fun b e => (o9.block b e).1))
            | (at_builtin; refine wpList_appw rfl _ _ rfl w5.heap.size _ _ _ ([] ++ tb ++ xb) rfl (o7.after hb8) _ _ _ _ (long s) rfl ho6.sl (by simp only [List.length_append, List.length_nil]; omega) k8.size ?_; intro D3 d3 f3 w9 o9 g9 _; have k9 : Below w5.heap.size w5 w9 := below_grow k8 g9 k8.size (fun b e => (o7.block b e).1)))
          have hcat : [] ++ tb ++ xb ++ long s ++ yb ++ zb ++ bs = tb ++ (xb ++ (long s ++ (yb ++ (zb ++ bs)))) := by simp
          rw [hcat] at o12
          clear hcat o6 o7 o9 o10 o11 ho6
          have bel12 : Below w.heap.size w w12 := Below.trans bel5 (k12.mono hz5)
          have hz12 := bel12.size
          replace p0 := keep_cell k12 p0
          replace p1 := keep_cell k12 p1
          replace q0 := keep_cell k12 q0
          replace q1 := keep_cell k12 q1
          have G1 := Lib.hid (text_back (fun _ => True) s tb (xb ++ (long s ++ (yb ++ (zb ++ bs)))) trivial HT.out)
          have G2 := Lib.hid (value_back ⟨vk, vb⟩ xb (long s ++ (yb ++ (zb ++ bs))) (by unfold val31; simp only; have := hvl.out; omega) HW.out)
          have G3 := Lib.hid (long_back s (long s) (yb ++ (zb ++ bs)) (by unfold short31; omega) rfl)
          have G4 := Lib.hid (inet_back ⟨ad, port⟩ yb (zb ++ bs) hp HI.out)
          have G5 := Lib.hid (cons_back k zb bs trivial HC.out)
          have hd6 : d6 ≤ 140737488355328 := by have h := o12.len; simp only [List.length_append] at h; omega
          refine (getText_any o12.sl hd6 _ G1.out).mono ?_
          rintro e w13 ⟨E1, e1, h1, rfl, hs13, hb13⟩
          clear o12
          have bel13 : Below w.heap.size w w13 := Below.trans bel12 (hb13.mono hz12)
          have hz13 := bel13.size
          simp only [rval_ok, rrest_ok, rerr_ok, id] at hs13 ⊢
          have he1 : e1 ≤ 140737488355328 := by have h := hs13.len; simp only [List.length_append] at h; omega
          replace p0 := keep_cell hb13 p0
          replace p1 := keep_cell hb13 p1
          replace q0 := keep_cell hb13 q0
          replace q1 := keep_cell hb13 q1
          go_wp2_with fail
          refine (getValue_any hs13 he1 _ G2.out).mono ?_
          rintro e w14 ⟨E2, e2, h2, E3, e3, h3, rfl, hu14, hs14, hb14⟩
          clear hs13
          have bel14 : Below w.heap.size w w14 := Below.trans bel13 (hb14.mono hz13)
          have hz14 := bel14.size
          simp only [rval_ok, rrest_ok, rerr_ok] at hu14 hs14 ⊢
          have he3 : e3 ≤ 140737488355328 := by have h := hs14.len; simp only [List.length_append] at h; omega
          replace p0 := keep_cell hb14 p0
          replace p1 := keep_cell hb14 p1
          replace q0 := keep_cell hb14 q0
          replace q1 := keep_cell hb14 q1
          go_wp2_with fail
          have hb14a : Below w14.heap.size w14 (w14.alloc (.cells #[.int .i64 (Val.norm ⟨vk, vb⟩).kind, .slice E2 e2 h2] 24)) := (Below.refl _ _).alloc (Nat.le_refl _) _
          refine (getLong_any (hs14.after hb14a) he3 _ G3.out).mono ?_
          rintro e w15 ⟨E4, e4, h4, rfl, hs15, hb15⟩
          have u0 : w15.cell? ⟨w14.heap.size, 0, none⟩ = some (.int .i64 (Val.norm ⟨vk, vb⟩).kind) := keep_cell hb15 (by go_simp)
          have u1 : w15.cell? ⟨w14.heap.size, 1, none⟩ = some (.slice E2 e2 h2) := keep_cell hb15 (by go_simp)
          clear hs14
          have hb14b := seqB hb14a hb15
          have bel15 : Below w.heap.size w w15 := Below.trans bel14 (hb14b.mono hz14)
          have hz15 := bel15.size
          simp only [rval_ok, rrest_ok, rerr_ok, id] at hs15 ⊢
          have he4 : e4 ≤ 140737488355328 := by have h := hs15.len; simp only [List.length_append] at h; omega
          replace p0 := keep_cell hb14b p0
          replace p1 := keep_cell hb14b p1
          replace q0 := keep_cell hb14b q0
          replace q1 := keep_cell hb14b q1
          have hu15 := hu14.after hb14b
          clear hu14 hb14a hb15
          go_wp2_with fail
          refine (getInet_any hs15 he4 _ G4.out).mono ?_
          rintro e w16 ⟨E5, e5, h5, E6, e6, h6, rfl, hi16, hs16, hb16⟩
          clear hs15
          have bel16 : Below w.heap.size w w16 := Below.trans bel15 (hb16.mono hz15)
          have hz16 := bel16.size
          simp only [rval_ok, rrest_ok, rerr_ok, id] at hi16 hs16 ⊢
          replace p0 := keep_cell hb16 p0
          replace p1 := keep_cell hb16 p1
          replace q0 := keep_cell hb16 q0
          replace q1 := keep_cell hb16 q1
          replace u0 := keep_cell hb16 u0
          replace u1 := keep_cell hb16 u1
          have hu16 := hu15.after hb16
          clear hu15
          go_wp2_with fail
          have hb16a : Below w16.heap.size w16 (w16.alloc (.cells #[.slice E5 e5 h5, .int .u32 (port : Int)] 83)) := (Below.refl _ _).alloc (Nat.le_refl _) _
          refine (getCons_any (hs16.after hb16a) _ G5.out).mono ?_
          rintro e w17 ⟨E7, e7, h7, rfl, hs17, hb17⟩
          have v0 : w17.cell? ⟨w16.heap.size, 0, none⟩ = some (.slice E5 e5 h5) := keep_cell hb17 (by go_simp)
          have v1 : w17.cell? ⟨w16.heap.size, 1, none⟩ = some (.int .u32 (port : Int)) := keep_cell hb17 (by go_simp)
          clear hs16
          have hb16b := seqB hb16a hb17
          have bel17 : Below w.heap.size w w17 := Below.trans bel16 (hb16b.mono hz16)
          simp only [rval_ok, rrest_ok, rerr_ok, id] at hs17 ⊢
          replace p0 := keep_cell hb16b p0
          replace p1 := keep_cell hb16b p1
          replace q0 := keep_cell hb16b q0
          replace q1 := keep_cell hb16b q1
          replace u0 := keep_cell hb16b u0
          replace u1 := keep_cell hb16b u1
          have hcu := conv_sl (hu16.after hb16b)
          have hcv := conv_sl (HV.out.after bel17)
          have hci := conv_sl (hi16.after hb16b)
          have hca := conv_sl (HA.out.after bel17)
          have hcr := conv_sl hs17
          have hcm := conv_sl (HS.out.after bel17)
          have hul := Lib.hid hu16.len
          have huc := hu16.cap
          have hum := hu16.capMax
          clear hu16 hi16 hs17 hb16a hb17 hb16b
          have hkind : vk = 0 ∨ vk = 1 ∨ vk = 2 := by rcases value_parts HW.out with ⟨h, _⟩ | ⟨h, _⟩ | ⟨h, _⟩ <;> simp only at h <;> omega
          rcases hkind with rfl | rfl | rfl
          · have hnb : (Val.norm ⟨0, vb⟩) = ⟨0, []⟩ := rfl
            rw [hnb] at hul u0 hcu
            obtain rfl : e2 = 0 := hul.out
            clear hnb hul
            go_wp2_with fail
            go_ret
            exact ⟨by simp, bel17⟩
          · have hnb : (Val.norm ⟨1, vb⟩) = ⟨1, []⟩ := rfl
            rw [hnb] at hul u0 hcu
            obtain rfl : e2 = 0 := hul.out
            clear hnb hul
            go_wp2_with fail
            go_ret
            exact ⟨by simp, bel17⟩
          · have hnb : (Val.norm ⟨2, vb⟩) = ⟨2, vb⟩ := rfl
            rw [hnb] at hul u0 hcu
            clear hnb hul
            go_wp2_with fail
            go_ret
            exact ⟨by simp, bel17⟩

set_option maxHeartbeats 1000000 in
set_option maxRecDepth 100000 in
theorem primsBack_any {S S1 S2 : Nat → Prop} {A A0 A1 : Option Addr} {m c m0 c0 n1 c1 : Nat} {s bs vb ad : B} {vk : Int} {port k : Nat} {w : World} (hl : s.length ≤ 9223372036854775807) (hv : Sl S1 w A0 m0 c0 vb) (ha : Sl S2 w A1 n1 c1 ad) (hp : port < 4294967296) (hk : k < 65536) (hs : Sl S w A m c bs) (hm : m ≤ 140737488351232) :
    Calls Try.prog 14 #[.string (str s), .agg #[.int .i64 vk, .slice A0 m0 c0], .agg #[.slice A1 n1 c1, .int .u32 (port : Int)], .int .u16 (k : Int), .slice A m c] w fun e w' => e = .returned (.bool true) ∧ Below w.heap.size w w' := by
  by_cases h : s.length ≤ 1000 ∧ m0 ≤ 1000
  · exact primsBack_small hv ha hp hk hs hm h.1 h.2
  · clear hs ha
    have hmc0 := hv.cap
    have hcm0 := hv.capMax
    have hx : 1000 < s.length ∨ 1000 < m0 := by omega
    clear h hv
    by_cases h2 : 1000 < s.length
    · clear hx
      go_enter Try.func14, Try.ntmps14
      go_wp2_with fail
      refine (awake2 _).mono ?_
      rintro e w1 ⟨rfl, hb1⟩
      have p1 : w1.cell? ⟨w.heap.size, 1, none⟩ = some (.slice A0 m0 c0) := keep_cell hb1 (by go_simp)
      have hb1 : Below w.heap.size w w1 := Below.trans (by repeat (first | exact Below.refl _ _ | assumption | refine Below.drew ?_ | refine below_drewN ?_ _ | refine Below.alloc ?_ (by first | (simp; done) | omega | (simp; omega)) _ | refine Below.setCell ?_ (by first | (simp; done) | omega | (simp; omega)) _)) (hb1.mono (by simp; omega))
      go_wp2_with fail
      go_ret
      exact ⟨rfl, hb1⟩
    · have h3 : 1000 < m0 := by omega
      clear hx
      go_enter Try.func14, Try.ntmps14
      go_wp2_with fail
      refine (awake2 _).mono ?_
      rintro e w1 ⟨rfl, hb1⟩
      have p1 : w1.cell? ⟨w.heap.size, 1, none⟩ = some (.slice A0 m0 c0) := keep_cell hb1 (by go_simp)
      have hb1 : Below w.heap.size w w1 := Below.trans (by repeat (first | exact Below.refl _ _ | assumption | refine Below.drew ?_ | refine below_drewN ?_ _ | refine Below.alloc ?_ (by first | (simp; done) | omega | (simp; omega)) _ | refine Below.setCell ?_ (by first | (simp; done) | omega | (simp; omega)) _)) (hb1.mono (by simp; omega))
      go_wp2_with fail
      go_ret
      exact ⟨rfl, hb1⟩
end Go.Proofs.Sb
