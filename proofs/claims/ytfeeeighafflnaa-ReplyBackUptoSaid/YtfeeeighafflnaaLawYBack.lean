/- The walk over signalboxlaw09.ReplyBack: true at every input, and nothing that was there has turned. Conditions: lengths up to 2^20. -/
import Derived.Test.YtfeeeighafflnaaAwake9
import Derived.Test.YtfeeeighafflnaaSlight9
set_option linter.unusedVariables false
set_option linter.unusedSimpArgs false
namespace Sb
theorem werr_err (e : Int) : werr (.error e) = e := rfl
end Sb
namespace Go.Proofs.Sb
open Go.RowKit _root_.Sb

set_option maxHeartbeats 8000000 in
set_option maxRecDepth 100000 in
theorem replyBack_any {S S2 : Nat → Prop} {w : World} {x : Rp} {t : Trs} {A : Option Addr} {n c : Nat} {bs : B} (hq : RpR S w x t) (hb : RpA 1048576 x) (hs : Sl S2 w A n c bs) :
    Calls Try.prog 5 #[.agg (rpT x t).toArray, .slice A n c] w fun e w' => e = .returned (.bool true) ∧ Below w.heap.size w w' := by
  have HP := Lib.hid (goesRp.mono (S' := fun b => S b ∧ b < w.heap.size) hq fun b h1 h2 => ⟨h1, h2⟩); clear hq
  have hln := Lib.hid hs.len
  have hcp := hs.cap
  have hcm := hs.capMax
  have HS := Lib.hid hs.lt; clear hs
  have HRB := Lib.hid hb; clear hb
  obtain ⟨vs, hvs⟩ : ∃ vs, vs = rpT x t := ⟨_, rfl⟩
  have hv0 : vs[0]? = some (.int .u8 ((x.opcode : Nat) : Int)) := by rw [hvs]; rfl
  have hvl : vs.length = 34 := by rw [hvs]; rfl
  rw [← hvs]
  have HVS := Lib.hid hvs; clear hvs
  go_enter Try.func5, Try.ntmps5
  go_upto_block 0 with fail
  obtain ⟨w1, hw1⟩ : ∃ w1, w1 = w.alloc (.cells vs.toArray 39) := ⟨_, rfl⟩
  rw [← hw1]
  have hB1 : Below w.heap.size w w1 := by rw [hw1]; exact (Below.refl _ _).alloc (Nat.le_refl _) _
  have hbx : Bx (fun b => b = w.heap.size) w1 w.heap.size vs := by
    rw [hw1]; exact Bx.alloc w vs.toArray 39 (S := fun b => b = w.heap.size) rfl rfl
  have HBX1 := Lib.hid hbx; clear hbx hw1
  have HB1 := Lib.hid hB1; clear hB1
  go_wp2_with fail
  refine (awake9 _).mono ?_
  rintro e w2 ⟨rfl, hb2⟩
  have HB2 := Lib.hid (HB1.out.trans (hb2.mono HB1.out.size))
  have HBX2 := Lib.hid (goesBx.after HBX1.out hb2)
  clear hb2 HBX1
  go_wp2_with (first | (refine wpList_loadB HBX2.out (by rfl) 39 _ (by rfl) (by rfl) _ Try.underlying39 rfl (by rw [hvl]; kernel_rfl) ?_))
  have hsl := slight9_any (goesRp.after HP.out HB2.out) HRB.out
  rw [← HVS.out] at hsl
  refine hsl.mono ?_
  clear hsl
  rintro e w3 ⟨β, rfl, hβ, hb3⟩
  have HB3 := Lib.hid (HB2.out.trans (hb3.mono HB2.out.size))
  have HBX3 := Lib.hid (goesBx.after HBX2.out hb3)
  clear hb3 HBX2
  have HBE := Lib.hid hβ; clear hβ
  cases β with
  | false =>
    go_wp2_with fail
    go_ret
    exact ⟨rfl, HB3.out⟩
  | true =>
    have HL := Lib.hid (HBE.out rfl); clear HBE
    by_cases hbig : 2000 < n
    · go_wp2_with fail
      go_ret
      exact ⟨rfl, HB3.out⟩
    have hn2 : n ≤ 2000 := by omega
    go_wp2_with (first | (refine wpList_loadB HBX3.out (by rfl) 39 _ (by rfl) (by rfl) _ Try.underlying39 rfl (by rw [hvl]; kernel_rfl) ?_))
    obtain ⟨r, hr⟩ : ∃ r, putRp x = r := ⟨_, rfl⟩
    have hput := rPut9_any (goesRp.after HP.out HB3.out) (small_B HRB.out HL.out) (small_Q HL.out) r hr
    rw [← HVS.out] at hput
    have HR := Lib.hid hr; clear hr
    refine hput.mono ?_
    clear hput
    rintro e w4 ⟨A4, n4, c4, rfl, hs4, hb4⟩
    have HS4 := Lib.hid hs4; clear hs4
    have HB4 := Lib.hid (HB3.out.trans (hb4.mono HB3.out.size))
    have HBX4 := Lib.hid (goesBx.after HBX3.out hb4)
    clear hb4 HBX3
    obtain ⟨rr, hrr⟩ : ∃ rr, getRp x.opcode bs = rr := ⟨_, rfl⟩
    have HRR := Lib.hid hrr; clear hrr
    go_upto_if 35 with fail
    go_cut [] (fun wx => Hid (Below w.heap.size w wx) ∧ Hid (Bx (fun b => b = w.heap.size) wx w.heap.size vs))
    case first =>
      cases r with
      | error e =>
        have hne : (e == 0) = false := by simpa using putRp_ne HR.out
        rw [werr_err]
        go_wp2_with fail
        go_meet
        exact ⟨HB4, HBX4⟩
      | ok cb =>
        rw [werr_ok]
        have p0 := HBX4.out.c 0 _ hv0
        have HS4' : Hid (Sl (fun b => w3.heap.size ≤ b) w4 A4 n4 c4 cb) := HS4
        have hle := small_len HRB.out HL.out
        rw [HR.out] at hle
        have hle2 : cb.length ≤ 2000000000 := hle
        have hl4 : n4 ≤ 140737488355328 := by have := HS4'.out.len; omega
        have HLE := Lib.hid hle2
        clear hle hle2 HS4
        obtain ⟨y, hy, hbp⟩ := rp_back (small_B HRB.out HL.out) (by have := HRB.out.token; unfold val31; omega) HR.out
        have HY := Lib.hid hy; clear hy hbp
        go_wp2_with fail
        refine (rGet9_any HS4'.out hl4 (.ok y) HY.out).mono ?_
        rintro e w5 ⟨t5, rfl, hq5, hb5⟩
        have HB5 := Lib.hid (HB4.out.trans (hb5.mono HB4.out.size))
        have HBX5 := Lib.hid (goesBx.after HBX4.out hb5)
        have HS5 := Lib.hid (HS4'.out.after hb5)
        have HQ5 : Hid (RpR (fun b => b < w5.heap.size) w5 y t5) := Lib.hid (goesRp.mono (S' := fun b => b < w5.heap.size) hq5 fun b _ h => h)
        clear hq5 hb5 HBX4 p0 HS4'
        rw [show rpOf (.ok y) = y from rfl, show erP (.ok y) = 0 from rfl]
        obtain ⟨vs5, hvs5⟩ : ∃ vs5, vs5 = rpT y t5 := ⟨_, rfl⟩
        have hvl5 : vs5.length = 34 := by rw [hvs5]; rfl
        have hone5 : vs5.all (·.oneCell') = true := by rw [hvs5]; rfl
        rw [← hvs5]
        have HVS5 := Lib.hid hvs5; clear hvs5
        go_wp2_with (first | (refine wpList_store_newB (by rfl) 39 _ _ (by rfl) _ _ _ _ (by rfl) (by rfl) (by simp) (by rfl) (by rw [hvl5]; kernel_rfl) (by rw [hvl5]; rfl) hone5 ?_; intro w6 hb6 hz6 hx6; have HB6 := Lib.hid (HB5.out.trans (hb6.mono HB5.out.size)); have HBX6 := Lib.hid (goesBx.after HBX5.out hb6); have HS6 := Lib.hid (HS5.out.after hb6); have HQ6 := Lib.hid (goesRp.after HQ5.out hb6); have HX6 : Hid (Bx (fun b => b = w5.heap.size) w6 w5.heap.size vs5) := Lib.hid hx6; clear hb6 hz6 hx6 HBX5 HS5 HQ5) | (refine wpList_loadB HX6.out (by rfl) 39 _ (by rfl) (by rfl) _ Try.underlying39 rfl (by rw [hvl5]; kernel_rfl) ?_))
        have HG := Lib.hid (got_RpQ HRB.out.op HLE.out HY.out)
        have hput := rPut9_any HQ6.out HG.out.1 HG.out.2 (.ok cb) (rp_fore HY.out).2
        rw [← HVS5.out] at hput
        refine hput.mono ?_
        clear hput
        rintro e w7 ⟨A7, n7, c7, rfl, hs7, hb7⟩
        have HB7 := Lib.hid (HB6.out.trans (hb7.mono HB6.out.size))
        have HBX7 := Lib.hid (goesBx.after HBX6.out hb7)
        have HS7 := Lib.hid (HS6.out.after hb7)
        have c7' := conv_sl HS7.out
        have c8' := conv_sl hs7
        rw [wval_ok] at c8'
        rw [werr_ok]
        clear hb7 hs7
        go_wp2_with fail
        go_meet
        exact ⟨HB7, HBX7⟩
    case rest =>
      obtain ⟨HBw, HBXw⟩ := hcut
      obtain ⟨w8, hwo⟩ : ∃ wo, wo = wc := ⟨_, rfl⟩
      subst hwo
      have p0 := HBXw.out.c 0 _ hv0
      clear HB4 HBX4 HS4 HR
      go_wp2_with fail
      refine (rGet9_any (HS.out.after HBw.out) (by omega) rr HRR.out).mono ?_
      rintro e w9 ⟨t9, rfl, hq9, hb9⟩
      have HB9 := Lib.hid (HBw.out.trans (hb9.mono HBw.out.size))
      have HQ9 : Hid (RpR (fun b => b < w9.heap.size) w9 (rpOf rr) t9) := Lib.hid (goesRp.mono (S' := fun b => b < w9.heap.size) hq9 fun b _ h => h)
      clear hb9 hq9 p0
      obtain ⟨vs9, hvs9⟩ : ∃ vs9, vs9 = rpT (rpOf rr) t9 := ⟨_, rfl⟩
      have hvl9 : vs9.length = 34 := by rw [hvs9]; rfl
      have hone9 : vs9.all (·.oneCell') = true := by rw [hvs9]; rfl
      have hv9 : vs9[0]? = some (.int .u8 (((rpOf rr).opcode : Nat) : Int)) := by rw [hvs9]; rfl
      have hv96 : vs9[26]? = some (.int .u32 (((rpOf rr).kind : Nat) : Int)) := by rw [hvs9]; rfl
      rw [← hvs9]
      have HVS9 := Lib.hid hvs9; clear hvs9
      cases rr with
      | error e =>
        have hne : (e != 0) = true := by simpa using getRp_ne HRR.out
        rw [show erP (.error e) = e from rfl]
        rw [show (((rpOf (.error e)).opcode : Nat) : Int) = 0 from rfl] at hv9
        rw [show (((rpOf (.error e)).kind : Nat) : Int) = 0 from rfl] at hv96
        go_wp2_with (first | (refine wpList_store_newB (by rfl) 39 _ _ (by rfl) _ _ _ _ (by rfl) (by rfl) (by simp) (by rfl) (by rw [hvl9]; kernel_rfl) (by rw [hvl9]; rfl) hone9 ?_; intro w10 hb10 hz10 hx10; have HB10 := Lib.hid (HB9.out.trans (hb10.mono HB9.out.size)); have p10 : w10.cell? ⟨w9.heap.size, 0, none⟩ = some (.int .u8 0) := hx10.c 0 _ hv9; have p11 : w10.cell? ⟨w9.heap.size, 26, none⟩ = some (.int .u32 0) := hx10.c 26 _ hv96; clear hb10 hz10 hx10))
        go_ret
        exact ⟨rfl, HB10.out⟩
      | ok q9 =>
        rw [show erP (.ok q9) = 0 from rfl]
        go_wp2_with (first | (refine wpList_store_newB (by rfl) 39 _ _ (by rfl) _ _ _ _ (by rfl) (by rfl) (by simp) (by rfl) (by rw [hvl9]; kernel_rfl) (by rw [hvl9]; rfl) hone9 ?_; intro w10 hb10 hz10 hx10; have HB10 := Lib.hid (HB9.out.trans (hb10.mono HB9.out.size)); have HQ10 := Lib.hid (goesRp.after HQ9.out hb10); have HX10 : Hid (Bx (fun b => b = w9.heap.size) w10 w9.heap.size vs9) := Lib.hid hx10; clear hb10 hz10 hx10) | (refine wpList_loadB HX10.out (by rfl) 39 _ (by rfl) (by rfl) _ Try.underlying39 rfl (by rw [hvl9]; kernel_rfl) ?_))
        have HG := Lib.hid (got_RpQ HRB.out.op (by have := hln.out; omega) HRR.out)
        have hput := rPut9_any (x := q9) HQ10.out HG.out.1 HG.out.2 (.ok bs) (rp_fore HRR.out).2
        rw [← show vs9 = rpT q9 t9 from HVS9.out] at hput
        refine hput.mono ?_
        clear hput
        rintro e w11 ⟨A11, n11, c11, rfl, hs11, hb11⟩
        have HB11 := Lib.hid (HB10.out.trans (hb11.mono HB10.out.size))
        have c1' := conv_sl (HS.out.after HB11.out)
        have c2' := conv_sl hs11
        rw [wval_ok] at c2'
        rw [werr_ok]
        clear hb11 hs11
        go_wp2_with fail
        go_ret
        exact ⟨by simp, HB11.out⟩
end Go.Proofs.Sb
