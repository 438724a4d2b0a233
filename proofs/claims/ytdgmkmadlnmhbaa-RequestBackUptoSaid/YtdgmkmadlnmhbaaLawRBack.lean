/- The walk over signalboxlaw08.RequestBack: true at every input, and nothing that was there has turned. Conditions: lengths up to 2^20. -/
import Derived.Test.YtdgmkmadlnmhbaaAwake8
import Derived.Test.YtdgmkmadlnmhbaaSlight8
set_option linter.unusedVariables false
set_option linter.unusedSimpArgs false
namespace Sb
theorem werr_err (e : Int) : werr (.error e) = e := rfl
end Sb
namespace Go.Proofs.Sb
open Go.RowKit _root_.Sb

set_option maxHeartbeats 8000000 in
set_option maxRecDepth 100000 in
theorem requestBack_any {S S2 : Nat → Prop} {w : World} {q : Rq} {o i r1 r2 r3 ev t al : Slc} {A : Option Addr} {n c : Nat} {bs : B} (hq : RqR S w q o i r1 r2 r3 ev t al) (hpn : ParN q.run) (hb : RqB 1048576 q) (hop : q.opcode < 256) (hkd : q.kind < 256) (hs : Sl S2 w A n c bs) :
    Calls Try.prog 5 #[.agg (rqV q o i r1 r2 r3 ev t al).toArray, .slice A n c] w fun e w' => e = .returned (.bool true) ∧ Below w.heap.size w w' := by
  have HP := Lib.hid (goesRq.mono (S' := fun b => S b ∧ b < w.heap.size) hq fun b h1 h2 => ⟨h1, h2⟩); clear hq
  have hln := Lib.hid hs.len
  have hcp := hs.cap
  have hcm := hs.capMax
  have HS := Lib.hid hs.lt; clear hs
  have HPN := Lib.hid hpn; clear hpn
  have HRB := Lib.hid hb; clear hb
  have HOP := Lib.hid hop; clear hop
  have HKD := Lib.hid hkd; clear hkd
  obtain ⟨vs, hvs⟩ : ∃ vs, vs = rqV q o i r1 r2 r3 ev t al := ⟨_, rfl⟩
  have hv0 : vs[0]? = some (.int .u8 (q.opcode : Int)) := by rw [hvs]; rfl
  have hvl : vs.length = 22 := by rw [hvs]; rfl
  rw [← hvs]
  have HVS := Lib.hid hvs; clear hvs
  go_enter Try.func5, Try.ntmps5
  go_upto_block 0 with fail
  obtain ⟨w1, hw1⟩ : ∃ w1, w1 = w.alloc (.cells vs.toArray 33) := ⟨_, rfl⟩
  rw [← hw1]
  have hB1 : Below w.heap.size w w1 := by rw [hw1]; exact (Below.refl _ _).alloc (Nat.le_refl _) _
  have hbx : Bx (fun b => b = w.heap.size) w1 w.heap.size vs := by
    rw [hw1]; exact Bx.alloc w vs.toArray 33 (S := fun b => b = w.heap.size) rfl rfl
  have HBX1 := Lib.hid hbx; clear hbx hw1
  have HB1 := Lib.hid hB1; clear hB1
  go_wp2_with fail
  refine (awake8 _).mono ?_
  rintro e w2 ⟨rfl, hb2⟩
  have HB2 := Lib.hid (HB1.out.trans (hb2.mono HB1.out.size))
  have HBX2 := Lib.hid (goesBx.after HBX1.out hb2)
  clear hb2 HBX1
  go_wp2_with (first | (refine wpList_loadB HBX2.out (by rfl) 33 _ (by rfl) (by rfl) _ Try.underlying33 rfl (by rw [hvl]; kernel_rfl) ?_))
  have hsl := slight8_any (goesRq.after HP.out HB2.out) HRB.out
  rw [← HVS.out] at hsl
  refine hsl.mono ?_
  clear hsl
  rintro e w3 ⟨β, rfl, hβ, hb3⟩
  have HB3 := Lib.hid (HB2.out.trans (hb3.mono HB2.out.size))
  have HBX3 := Lib.hid (goesBx.after HBX2.out hb3)
  clear hb3 HBX2
  have HBE := Lib.hid hβ; clear hβ
  cases β with
  | false =>
    go_wp2_with fail
    go_ret
    exact ⟨rfl, HB3.out⟩
  | true =>
    have HL := Lib.hid (light_of HRB.out (HBE.out rfl)); clear HBE
    by_cases hbig : 2000 < n
    · go_wp2_with fail
      go_ret
      exact ⟨rfl, HB3.out⟩
    have hn2 : n ≤ 2000 := by omega
    go_wp2_with (first | (refine wpList_loadB HBX3.out (by rfl) 33 _ (by rfl) (by rfl) _ Try.underlying33 rfl (by rw [hvl]; kernel_rfl) ?_))
    obtain ⟨r, hr⟩ : ∃ r, putRq q = r := ⟨_, rfl⟩
    have hput := wPut_any (goesRq.after HP.out HB3.out) HOP.out HKD.out HPN.out (by have := HL.out; omega) r hr
    rw [← HVS.out] at hput
    have HR := Lib.hid hr; clear hr
    refine hput.mono ?_
    clear hput
    rintro e w4 ⟨A4, n4, c4, rfl, hs4, hb4⟩
    have HS4 := Lib.hid hs4; clear hs4
    have HB4 := Lib.hid (HB3.out.trans (hb4.mono HB3.out.size))
    have HBX4 := Lib.hid (goesBx.after HBX3.out hb4)
    clear hb4 HBX3
    obtain ⟨rr, hrr⟩ : ∃ rr, getRq q.opcode bs = rr := ⟨_, rfl⟩
    have HRR := Lib.hid hrr; clear hrr
    go_upto_if 35 with fail
    go_cut [] (fun wx => Hid (Below w.heap.size w wx) ∧ Hid (Bx (fun b => b = w.heap.size) wx w.heap.size vs))
    case first =>
      cases r with
      | error e =>
        have hne : (e == 0) = false := by simpa using putRq_ne HR.out
        rw [werr_err]
        go_wp2_with fail
        go_meet
        exact ⟨HB4, HBX4⟩
      | ok cb =>
        rw [werr_ok]
        have p0 := HBX4.out.c 0 _ hv0
        have HS4' : Hid (Sl (fun b => w3.heap.size ≤ b) w4 A4 n4 c4 cb) := HS4
        have hle : lenW (putRq q) ≤ 8600000000 + costQ q := put_le q
        rw [HR.out] at hle
        have hl4 : n4 ≤ 140737488355328 := by have := HS4'.out.len; have := HL.out; have : lenW (.ok cb) = cb.length := rfl; omega
        clear hle HS4
        go_wp2_with fail
        refine (rget8_any HS4'.out hl4 HOP.out (.ok q.norm) (rq_back (rq31_of HRB.out HPN.out) HR.out)).mono ?_
        rintro e w5 ⟨o5, i5, x1, x2, x3, ev5, t5, al5, rfl, hq5, hb5⟩
        have HB5 := Lib.hid (HB4.out.trans (hb5.mono HB4.out.size))
        have HBX5 := Lib.hid (goesBx.after HBX4.out hb5)
        have HS5 := Lib.hid (HS4'.out.after hb5)
        have HQ5 : Hid (RqR _ w5 q.norm o5 i5 x1 x2 x3 ev5 t5 al5) := Lib.hid (goesRq.mono (S' := fun b => b < w5.heap.size) hq5 fun b _ h => h)
        clear hq5 hb5 HBX4 p0 HS4'
        rw [show rqOf (.ok q.norm) = q.norm from rfl, show erOf (.ok q.norm) = 0 from rfl]
        obtain ⟨vs5, hvs5⟩ : ∃ vs5, vs5 = rqV q.norm o5 i5 x1 x2 x3 ev5 t5 al5 := ⟨_, rfl⟩
        have hvl5 : vs5.length = 22 := by rw [hvs5]; rfl
        have hone5 : vs5.all (·.oneCell') = true := by rw [hvs5]; rfl
        rw [← hvs5]
        have HVS5 := Lib.hid hvs5; clear hvs5
        go_wp2_with (first | (refine wpList_store_newB (by rfl) 33 _ _ (by rfl) _ _ _ _ (by rfl) (by rfl) (by simp) (by rfl) (by rw [hvl5]; kernel_rfl) (by rw [hvl5]; rfl) hone5 ?_; intro w6 hb6 hz6 hx6; have HB6 := Lib.hid (HB5.out.trans (hb6.mono HB5.out.size)); have HBX6 := Lib.hid (goesBx.after HBX5.out hb6); have HS6 := Lib.hid (HS5.out.after hb6); have HQ6 := Lib.hid (goesRq.after HQ5.out hb6); have HX6 : Hid (Bx (fun b => b = w5.heap.size) w6 w5.heap.size vs5) := Lib.hid hx6; clear hb6 hz6 hx6 HBX5 HS5 HQ5) | (refine wpList_loadB HX6.out (by rfl) 33 _ (by rfl) (by rfl) _ Try.underlying33 rfl (by rw [hvl5]; kernel_rfl) ?_))
        have HQ6' : Hid (RqR (fun b => b < w6.heap.size) w6 q.norm o5 i5 x1 x2 x3 ev5 t5 al5) := Lib.hid (goesRq.mono HQ6.out fun b h _ => by have := HB6.out.size; have := HX6.out.lt; omega)
        obtain ⟨g1, g2, g3, g4⟩ := got_light HOP.out (rq_back (rq31_of HRB.out HPN.out) HR.out)
        have hput := wPut_any HQ6'.out (by rw [g3]; exact HOP.out) g4 g2 (by have := HL.out; have := costQ_norm q; omega) (.ok cb) (rq_fore (rq_back (rq31_of HRB.out HPN.out) HR.out))
        rw [← HVS5.out] at hput
        clear g1 g2 g3 g4
        refine hput.mono ?_
        clear hput
        rintro e w7 ⟨A7, n7, c7, rfl, hs7, hb7⟩
        have HB7 := Lib.hid (HB6.out.trans (hb7.mono HB6.out.size))
        have HBX7 := Lib.hid (goesBx.after HBX6.out hb7)
        have HS7 := Lib.hid (HS6.out.after hb7)
        have c7' := conv_sl HS7.out
        have c8' := conv_sl hs7
        rw [wval_ok] at c8'
        rw [werr_ok]
        clear hb7 hs7
        go_wp2_with fail
        go_meet
        exact ⟨HB7, HBX7⟩
    case rest =>
      obtain ⟨HBw, HBXw⟩ := hcut
      obtain ⟨w8, hwo⟩ : ∃ wo, wo = wc := ⟨_, rfl⟩
      subst hwo
      have p0 := HBXw.out.c 0 _ hv0
      clear HB4 HBX4 HS4 HR
      go_wp2_with fail
      refine (rget8_any (HS.out.after HBw.out) (by omega) HOP.out rr HRR.out).mono ?_
      rintro e w9 ⟨o9, i9, y1, y2, y3, ev9, t9, al9, rfl, hq9, hb9⟩
      have HB9 := Lib.hid (HBw.out.trans (hb9.mono HBw.out.size))
      have HQ9 : Hid (RqR (fun b => b < w9.heap.size) w9 (rqOf rr) o9 i9 y1 y2 y3 ev9 t9 al9) := Lib.hid (goesRq.mono (S' := fun b => b < w9.heap.size) hq9 fun b _ h => h)
      clear hb9 hq9 p0
      obtain ⟨vs9, hvs9⟩ : ∃ vs9, vs9 = rqV (rqOf rr) o9 i9 y1 y2 y3 ev9 t9 al9 := ⟨_, rfl⟩
      have hvl9 : vs9.length = 22 := by rw [hvs9]; rfl
      have hone9 : vs9.all (·.oneCell') = true := by rw [hvs9]; rfl
      have hv9 : vs9[0]? = some (.int .u8 ((rqOf rr).opcode : Int)) := by rw [hvs9]; rfl
      rw [← hvs9]
      have HVS9 := Lib.hid hvs9; clear hvs9
      cases rr with
      | error e =>
        have hne : (e != 0) = true := by simpa using getRq_ne HRR.out
        rw [show erOf (.error e) = e from rfl]
        rw [show ((rqOf (.error e)).opcode : Int) = 0 from rfl] at hv9
        go_wp2_with (first | (refine wpList_store_newB (by rfl) 33 _ _ (by rfl) _ _ _ _ (by rfl) (by rfl) (by simp) (by rfl) (by rw [hvl9]; kernel_rfl) (by rw [hvl9]; rfl) hone9 ?_; intro w10 hb10 hz10 hx10; have HB10 := Lib.hid (HB9.out.trans (hb10.mono HB9.out.size)); have p10 : w10.cell? ⟨w9.heap.size, 0, none⟩ = some (.int .u8 0) := hx10.c 0 _ hv9; clear hb10 hz10 hx10))
        go_ret
        exact ⟨rfl, HB10.out⟩
      | ok q9 =>
        rw [show erOf (.ok q9) = 0 from rfl]
        obtain ⟨g1, g2, g3, g4⟩ := got_light HOP.out HRR.out
        have HG := Lib.hid g1
        go_wp2_with (first | (refine wpList_store_newB (by rfl) 33 _ _ (by rfl) _ _ _ _ (by rfl) (by rfl) (by simp) (by rfl) (by rw [hvl9]; kernel_rfl) (by rw [hvl9]; rfl) hone9 ?_; intro w10 hb10 hz10 hx10; have HB10 := Lib.hid (HB9.out.trans (hb10.mono HB9.out.size)); have HQ10 := Lib.hid (goesRq.after HQ9.out hb10); have HX10 : Hid (Bx (fun b => b = w9.heap.size) w10 w9.heap.size vs9) := Lib.hid hx10; clear hb10 hz10 hx10) | (refine wpList_loadB HX10.out (by rfl) 33 _ (by rfl) (by rfl) _ Try.underlying33 rfl (by rw [hvl9]; kernel_rfl) ?_))
        have hput := wPut_any HQ10.out (by rw [show rqOf (.ok q9) = q9 from rfl, g3]; exact HOP.out) g4 g2 (by have := hln.out; show costQ q9 ≤ _; omega) (.ok bs) (rq_fore HRR.out)
        rw [← HVS9.out] at hput
        clear g1 g2 g3 g4
        refine hput.mono ?_
        clear hput
        rintro e w11 ⟨A11, n11, c11, rfl, hs11, hb11⟩
        have HB11 := Lib.hid (HB10.out.trans (hb11.mono HB10.out.size))
        have c1' := conv_sl (HS.out.after HB11.out)
        have c2' := conv_sl hs11
        rw [wval_ok] at c2'
        rw [werr_ok]
        clear hb11 hs11
        go_wp2_with fail
        go_ret
        exact ⟨by simp, HB11.out⟩
end Go.Proofs.Sb
