/- Walks over the package prims. Conditions: lengths up to 2^47. -/
import Derived.Test.YtpgcadicamnpkaaDoorOct
set_option linter.unusedVariables false
set_option linter.unusedSimpArgs false
namespace Go.Proofs.Sb
open Go.RowKit _root_.Sb

theorem text_any (s : B) (w : World) (hs : s.length ≤ 9223372036854775807) (r : Wr) (hr : text s = r) :
    Calls Tryd.prog 48 #[.string (str s)] w fun e w' => ∃ A n c, e = .returned (.tuple #[.slice A n c, .int .i64 (werr r)]) ∧ Own w.heap.size w' A n c (wval r) ∧ Below w.heap.size w w' := by
  subst hr
  unfold text
  by_cases h : s.length > 65535
  · rw [if_pos h]
    go_enter Tryd.func48, Tryd.ntmps48
    go_wp2_with fail
    go_ret2
    exact ⟨_, _, _, rfl, Own.nil, Below.refl _ _⟩
  · rw [if_neg h]
    go_enter Tryd.func48, Tryd.ntmps48
    go_wp2_with (first
      | (go_at_call 33; refine (put_any _ 2 _ (by omega) (by omega) (by omega) (by omega)).mono ?_; rintro e w1 ⟨A, m, c, rfl, ho, hb⟩)
      | (at_builtin; refine wpList_apps rfl _ _ rfl w.heap.size _ _ _ _ rfl ho _ rfl (by rw [enc_length]; omega) (hb.size) ?_; intro A1 n1 c1 w1 hown1 hg1))
    go_ret2
    exact ⟨_, _, _, rfl, hown1, hb.grown hg1 hb.size (fun k hk => (ho.block k hk).1)⟩

theorem counted_any {S : Nat → Prop} {A : Option Addr} {m c : Nat} {bs : B} {w : World} (hs : Sl S w A m c bs) (hm : m ≤ 140737488355328) (x : Int) (h0 : 0 ≤ x) (r : Res B) (hr : takeN x.toNat bs = r) :
    Calls Tryd.prog 54 #[.int .u64 x, .slice A m c] w fun e w' => ∃ A2 m2 c2, e = .returned (.tuple #[.string (str (rval [] r)), .slice A2 m2 c2, .int .i64 (rerr r)]) ∧ Sl S w' A2 m2 c2 (rrest r) ∧ Below w.heap.size w w' := by
  have HR := Lib.hid hr; clear hr
  go_enter Tryd.func54, Tryd.ntmps54
  go_wp2_with (first
    | (go_at_call 55; refine (take_any hs hm x h0 r HR.out).mono ?_; rintro e w1 ⟨A1, m1, c1, A2, m2, c2, rfl, ho, hsl, hb⟩; have hcv := conv_sl ho.sl))
  go_ret3
  exact ⟨_, _, _, rfl, hsl, hb⟩

theorem getText_any {S : Nat → Prop} {A : Option Addr} {m c : Nat} {bs : B} {w : World} (hs : Sl S w A m c bs) (hm : m ≤ 140737488355328) (r : Res B) (hr : getText bs = r) :
    Calls Tryd.prog 52 #[.slice A m c] w fun e w' => ∃ A2 m2 c2, e = .returned (.tuple #[.string (str (rval [] r)), .slice A2 m2 c2, .int .i64 (rerr r)]) ∧ Sl S w' A2 m2 c2 (rrest r) ∧ Below w.heap.size w w' := by
  have hlen := Lib.hid hs.len
  subst hr
  unfold getText
  cases h : getN 2 bs with
  | error e =>
    obtain rfl := getN_err h
    have HG := Lib.hid h; clear h
    go_enter Tryd.func52, Tryd.ntmps52
    go_wp2_with (first
      | (go_at_call 51; refine (get_any hs (n := 2) (by omega) (by omega) _ HG.out).mono ?_; rintro e w1 ⟨A1, m1, c1, rfl, hsl, hb⟩))
    go_ret3
    exact ⟨_, _, _, rfl, Sl.nil, hb⟩
  | ok p =>
    obtain ⟨n, r⟩ := p
    have hrl : r.length ≤ 140737488355328 := by have := (getN_ok h).2.2.1; have h2 := hlen.out; rw [this, List.length_drop]; omega
    have HG := Lib.hid h; clear h
    have hR : ∃ q, takeN n r = q := ⟨_, rfl⟩
    obtain ⟨q, hq⟩ := hR
    have HQ := Lib.hid hq; clear hq
    simp only [HQ.out]
    go_enter Tryd.func52, Tryd.ntmps52
    go_wp2_with (first
      | (go_at_call 51; refine (get_any hs (n := 2) (by omega) (by omega) _ HG.out).mono ?_; rintro e w1 ⟨A1, m1, c1, rfl, hsl, hb⟩)
      | (go_at_call 54; refine (counted_any hsl (by have := hsl.len; simp at this; omega) _ (by omega) q (by simpa using HQ.out)).mono ?_; rintro e w2 ⟨A2, m2, c2, rfl, hsl2, hb2⟩))
    go_ret3
    exact ⟨_, _, _, rfl, hsl2, hb.trans (hb2.mono hb.size)⟩

theorem enc_null : enc 4 18446744073709551615 = [255, 255, 255, 255] := by decide +kernel
theorem enc_unset : enc 4 18446744073709551614 = [255, 255, 255, 254] := by decide +kernel

theorem put_null (k : Int) (bs : B) (hk : k = -1 ∧ bs = [255, 255, 255, 255] ∨ k = -2 ∧ bs = [255, 255, 255, 254]) (w : World) :
    Calls Tryd.prog 33 #[.int .u64 (IntKind.u64.wrap k), .int .i64 4] w fun e w' => ∃ A m c, e = .returned (.slice A m c) ∧ Own w.heap.size w' A m c bs ∧ Below w.heap.size w w' := by
  have h := put_any (IntKind.u64.wrap k) 4 w (by omega) (by omega) (by rcases hk with h | h <;> rw [h.1] <;> decide) (by rcases hk with h | h <;> rw [h.1] <;> decide)
  have e : enc 4 (IntKind.u64.wrap k).toNat = bs := by
    rcases hk with ⟨rfl, rfl⟩ | ⟨rfl, rfl⟩
    · exact enc_null
    · exact enc_unset
  rw [e] at h
  exact h

end Go.Proofs.Sb
