/- The walk over signalboxlaw09.ReplyPuts: true at every input, and nothing that was there has turned. Conditions: lengths up to 2^20. -/
import Derived.Test.YtfeeeighafflnaaAwake9
import Derived.Test.YtfeeeighafflnaaSlight9
import Derived.Test.YtfeeeighafflnaaRyo
import Derived.Test.YtfeeeighafflnaaRyl
set_option linter.unusedVariables false
set_option linter.unusedSimpArgs false
namespace Sb
open Go.Proofs.Sb
theorem rpL_small {x : Rp} (h : RpA 1048576 x) (s : RpS x) : RpL x := by
  have hc := s.cnt
  unfold cntP at hc
  exact ⟨by omega, by omega, by omega, by omega, fun y hy => by have := cntM_mem hy; omega⟩
theorem rfB_small {x : Rp} (h : RpA 1048576 x) (s : RpS x) : RfB (rfOf x) := by
  have hc := s.cnt
  have hr := s.rest
  have ht := h.token
  have ha := h.addr
  have hm := small_M s
  have hk := h.flt
  unfold cntP at hc
  refine ⟨hk.code, ?_, hk.level, hk.received, hk.needed, hk.failures, hk.data, hk.write, hk.space, hk.name, ?_, ?_, h.kind, h.what, ?_, h.port, ?_, h.rkind, ?_, ?_, 6700000, hm.1, by decide, ?_⟩
  · show strOk (if x.opcode = 0 then x.fault.text else x.text)
    split
    · exact hk.text
    · exact strOk_of h.text (by decide)
  · show strOk (if x.opcode = 0 then x.fault.ident else x.ident)
    split
    · exact hk.ident
    · exact strOk_of h.ident (by decide)
  · show x.token.bytes.length ≤ _; omega
  · exact strOk_of ha (by decide)
  · show ChgB (if x.opcode = 12 then x.note.schema else x.change)
    split
    · exact h.sch
    · exact h.chg
  · show x.rest.length ≤ _; omega
  · exact fun y hy => by have := cntM_mem (l := x.support) hy; omega
  · exact Nat.le_trans hm.2 (by decide)
theorem lenS_ite {c : Prop} [Decidable c] {a b : Wr} {n : Nat} (ha : lenS a ≤ n) (hb : lenS b ≤ n) : lenS (if c then a else b) ≤ n := by split <;> assumption
theorem wl_small {x : Rp} (h : RpA 1048576 x) (s : RpS x) (L : Nat) : lenS (writeL L (rfOf x)) ≤ 1000000000 := by
  have hc := s.cnt
  unfold cntP at hc
  have h1 := textsS_few (l := x.fault.args) (by omega)
  have h2 := textsS_few (l := x.note.schema.args) (by omega)
  have h3 := textsS_few (l := x.change.args) (by omega)
  have h4 := s.rest
  have h5 := h.token
  have hm := small_M s
  have ht : ∀ y, lenS (text y) ≤ 1000000000 := fun y => Nat.le_trans (textS_len y) (by decide)
  have hn : ∀ y, lenS (num4W y) ≤ 1000000000 := fun y => Nat.le_trans (num4S_len y) (by decide)
  have he : ∀ k y, k ≤ 1000000000 → lenS (.ok (enc k y)) ≤ 1000000000 := fun k y hk => by rw [encS_len]; exact hk
  have hch : lenS (texts (rfOf x).change.args) ≤ 1000000000 := by
    show lenS (texts (if x.opcode = 12 then x.note.schema else x.change).args) ≤ _
    split <;> omega
  have hsu : lenS (putL multiW x.support) ≤ 1000000000 := by
    cases hp : putL multiW x.support with
    | error e => exact Nat.zero_le _
    | ok b => have := (putL_len hm.1 hp).2; show b.length ≤ _; omega
  unfold writeL
  refine lenS_ite (he _ _ (by decide)) ?_
  refine lenS_ite (he _ _ (by decide)) ?_
  refine lenS_ite (ht _) ?_
  refine lenS_ite (Nat.le_trans (consS_len _) (by decide)) ?_
  refine lenS_ite (hn _) ?_
  refine lenS_ite (hn _) ?_
  refine lenS_ite (hn _) ?_
  refine lenS_ite (he _ _ (by decide)) ?_
  refine lenS_ite (ht _) ?_
  refine lenS_ite (ht _) ?_
  refine lenS_ite (ht _) ?_
  refine lenS_ite ((show lenS (texts x.fault.args) ≤ _ by omega)) ?_
  refine lenS_ite (ht _) ?_
  refine lenS_ite (hsu) ?_
  refine lenS_ite ((show lenS (value x.token) ≤ _ by have := valueS_len x.token; omega)) ?_
  refine lenS_ite (ht _) ?_
  refine lenS_ite (ht _) ?_
  refine lenS_ite (Nat.le_trans (inetS_len _) (by decide)) ?_
  refine lenS_ite ((show x.rest.length ≤ _ by omega)) ?_
  refine lenS_ite (ht _) ?_
  refine lenS_ite (ht _) ?_
  refine lenS_ite (ht _) ?_
  refine lenS_ite (ht _) ?_
  refine lenS_ite (hch) ?_
  exact Nat.zero_le _
theorem wl_small' {x : Rp} (h : RpA 1048576 x) (s : RpS x) : ∀ L b, writeL L (rfOf x) = .ok b → b.length ≤ 1000000000 := fun L b hb => by
  have := wl_small h s L
  rw [hb] at this
  exact this
end Sb
namespace Go.Proofs.Sb
open Go.RowKit _root_.Sb
set_option maxHeartbeats 8000000 in
set_option maxRecDepth 100000 in
theorem replyPuts_any {S : Nat → Prop} {w : World} {x : Rp} {t : Trs} (hq : RpR S w x t) (hb : RpA 1048576 x) :
    Calls Try.prog 4 #[.agg (rpT x t).toArray] w fun e w' => e = .returned (.bool true) ∧ Below w.heap.size w w' := by
  have HP := Lib.hid (goesRp.mono (S' := fun b => S b ∧ b < w.heap.size) hq fun b h1 h2 => ⟨h1, h2⟩); clear hq
  have HRB := Lib.hid hb; clear hb
  obtain ⟨vs, hvs⟩ : ∃ vs, vs = rpT x t := ⟨_, rfl⟩
  have hvl : vs.length = 34 := by rw [hvs]; rfl
  rw [← hvs]
  have HVS := Lib.hid hvs; clear hvs
  go_enter Try.func4, Try.ntmps4
  go_upto_region 1 with fail
  obtain ⟨w1, hw1⟩ : ∃ w1, w1 = w.alloc (.cells vs.toArray 39) := ⟨_, rfl⟩
  rw [← hw1]
  have hB1 : Below w.heap.size w w1 := by rw [hw1]; exact (Below.refl _ _).alloc (Nat.le_refl _) _
  have hbx : Bx (fun b => b = w.heap.size) w1 w.heap.size vs := by
    rw [hw1]; exact Bx.alloc w vs.toArray 39 (S := fun b => b = w.heap.size) rfl rfl
  have HBX1 := Lib.hid hbx; clear hbx hw1
  have HB1 := Lib.hid hB1; clear hB1
  go_wp2_with fail
  refine (awake9 _).mono ?_
  rintro e w2 ⟨rfl, hb2⟩
  have HB2 := Lib.hid (HB1.out.trans (hb2.mono HB1.out.size))
  have HBX2 := Lib.hid (goesBx.after HBX1.out hb2)
  clear hb2 HBX1
  go_wp2_with (first | (refine wpList_loadB HBX2.out (by rfl) 39 _ (by rfl) (by rfl) _ Try.underlying39 rfl (by rw [hvl]; kernel_rfl) ?_))
  have hsl := slight9_any (goesRp.after HP.out HB2.out) HRB.out
  rw [← HVS.out] at hsl
  refine hsl.mono ?_
  clear hsl
  rintro e w3 ⟨β, rfl, hβ, hb3⟩
  have HB3 := Lib.hid (HB2.out.trans (hb3.mono HB2.out.size))
  have HBX3 := Lib.hid (goesBx.after HBX2.out hb3)
  clear hb3 HBX2
  have HBE := Lib.hid hβ; clear hβ
  cases β with
  | false =>
    go_wp2_with fail
    go_ret
    exact ⟨rfl, HB3.out⟩
  | true =>
    have HL := Lib.hid (HBE.out rfl); clear HBE
    go_wp2_with (first | (refine wpList_loadB HBX3.out (by rfl) 39 _ (by rfl) (by rfl) _ Try.underlying39 rfl (by rw [hvl]; kernel_rfl) ?_))
    obtain ⟨r, hr⟩ : ∃ r, putRp x = r := ⟨_, rfl⟩
    have hput := rPut9_any (goesRp.after HP.out HB3.out) (small_B HRB.out HL.out) (small_Q HL.out) r hr
    rw [← HVS.out] at hput
    have HR := Lib.hid hr; clear hr
    refine hput.mono ?_
    clear hput
    rintro e w4 ⟨A4, n4, c4, rfl, hs4, hb4⟩
    have HS4 := Lib.hid hs4; clear hs4
    have HB4 := Lib.hid (HB3.out.trans (hb4.mono HB3.out.size))
    have HBX4 := Lib.hid (goesBx.after HBX3.out hb4)
    clear hb4 HBX3
    go_wp2_with (first | (refine wpList_loadB HBX4.out (by rfl) 39 _ (by rfl) (by rfl) _ Try.underlying39 rfl (by rw [hvl]; kernel_rfl) ?_))
    have hof := replyOf_any (goesRp.after HP.out HB4.out) (rpL_small HRB.out HL.out)
    rw [← HVS.out] at hof
    refine hof.mono ?_
    clear hof
    rintro e w5 ⟨t5, rfl, hrf, hb5⟩
    have HB5 := Lib.hid (HB4.out.trans (hb5.mono HB4.out.size))
    have HS5 := Lib.hid (HS4.out.after hb5)
    have HRF := Lib.hid hrf
    clear hrf hb5 HS4
    go_wp2_with fail
    refine (rPut9ref_any HRF.out (rfB_small HRB.out HL.out) (wl_small' HRB.out HL.out) r (by rw [putRf_eq, HR.out]) (fun h => putRp_ne (HR.out.trans h) rfl)).mono ?_
    rintro e w6 ⟨A6, n6, c6, rfl, hs6, hb6⟩
    have HB6 := Lib.hid (HB5.out.trans (hb6.mono HB5.out.size))
    have cv1 := conv_sl (HS5.out.after hb6)
    have cv2 := conv_sl hs6
    clear hs6 hb6
    go_wp2_with fail
    go_ret
    exact ⟨by simp, HB6.out⟩
end Go.Proofs.Sb
