/- Walks over the reference of layer 2. Conditions: lengths up to 2^47. -/
import Derived.Test.YtpgcadicamnpkaaDoorRefa
set_option linter.unusedVariables false
set_option linter.unusedSimpArgs false
namespace Go.Proofs.Sb
open Go.RowKit _root_.Sb

theorem rtext_any (s : B) (w : World) (hs : s.length ≤ 9223372036854775807) (r : Wr) (hr : text s = r) :
    Calls Tryd.prog 37 #[.string (str s)] w fun e w' => ∃ A n c, e = .returned (.tuple #[.slice A n c, .int .i64 (werr r)]) ∧ Own w.heap.size w' A n c (wval r) ∧ Below w.heap.size w w' := by
  subst hr
  unfold text
  by_cases h : s.length > 65535
  · rw [if_pos h]
    go_enter Tryd.func37, Tryd.ntmps37
    go_wp2_with fail
    go_ret2
    exact ⟨_, _, _, rfl, Own.nil, Below.refl _ _⟩
  · rw [if_neg h]
    go_enter Tryd.func37, Tryd.ntmps37
    go_wp2_with (first
      | (go_at_call 36; refine (rput_any _ 2 _ (by omega) (by omega) (by omega) (by omega)).mono ?_; rintro e w1 ⟨A, m, c, rfl, ho, hb⟩)
      | (at_builtin; refine wpList_apps rfl _ _ rfl w.heap.size _ _ _ _ rfl ho _ rfl (by rw [enc_length]; omega) (hb.size) ?_; intro A1 n1 c1 w1 hown1 hg1))
    go_ret2
    exact ⟨_, _, _, rfl, hown1, hb.grown hg1 hb.size (fun k hk => (ho.block k hk).1)⟩

set_option maxRecDepth 100000 in
theorem run_any {S : Nat → Prop} {A : Option Addr} {m c a : Nat} {bs : B} {w : World} (hs : Sl S w A m c bs) (hm : m ≤ 140737488355328) (ha : a ≤ m) (x : Int) (h0 : 0 ≤ x) (r : Res B) (hr : takeN x.toNat (bs.drop a) = r) :
    Calls Tryd.prog 46 #[.slice A m c, .int .i64 (a : Int), .int .u64 x] w fun e w' => ∃ q : Nat, e = .returned (.tuple #[.string (str (rval [] r)), .int .i64 (q : Int), .int .i64 (rerr r)]) ∧ AtR bs q r ∧ w = w' := by
  have hl := Lib.hid hs.len
  subst hr
  unfold takeN
  obtain ⟨k, rfl⟩ := Int.eq_ofNat_of_zero_le h0
  rw [Int.toNat_natCast]
  by_cases h : (bs.drop a).length < k
  · rw [if_pos h]
    have h1 : m < a + k := by rw [List.length_drop] at h; have := hl.out; omega
    clear h hl
    go_enter Tryd.func46, Tryd.ntmps46
    go_wp2_with fail
    go_ret3
    exact ⟨0, rfl, AtR.err, rfl⟩
  · rw [if_neg h]
    have h1 : a + k ≤ m := by rw [List.length_drop] at h; have := hl.out; omega
    clear h
    have hmc := hs.cap
    have hcm := hs.capMax
    have hmid := run_mid A m c a (a + k) .i64 .i64 (by omega) (by omega)
    have hcv := conv_sl (hs.mid a (a + k) (by omega) h1)
    simp only [Int.natCast_add, Nat.add_sub_cancel_left] at hmid hcv
    generalize hT : (bs.drop a).take k = T at hcv
    have HT := Lib.hid hT; clear hT
    go_enter Tryd.func46, Tryd.ntmps46
    go_wp2_with fail
    go_ret3
    refine ⟨a + k, ?_, AtR.ok (by have := hl.out; omega) (by simp [List.drop_drop]), rfl⟩
    rw [← HT.out]
    simp

theorem rgetText_any {S : Nat → Prop} {A : Option Addr} {m c a : Nat} {bs : B} {w : World} (hs : Sl S w A m c bs) (hm : m ≤ 140737488355328) (ha : a ≤ m) (r : Res B) (hr : getText (bs.drop a) = r) :
    Calls Tryd.prog 31 #[.slice A m c, .int .i64 (a : Int)] w fun e w' => ∃ q : Nat, e = .returned (.tuple #[.string (str (rval [] r)), .int .i64 (q : Int), .int .i64 (rerr r)]) ∧ AtR bs q r ∧ w = w' := by
  have hl := Lib.hid hs.len
  subst hr
  unfold getText
  cases h : getN 2 (bs.drop a) with
  | error e =>
    obtain rfl := getN_err h
    have HG := Lib.hid h; clear h
    go_enter Tryd.func31, Tryd.ntmps31
    go_wp2_with (first
      | (go_at_call 29; refine (rget_any hs ha (n := 2) (by omega) (by omega) _ HG.out).mono ?_; rintro e w1 ⟨q, rfl, hq, rfl⟩))
    go_ret3
    exact ⟨0, rfl, AtR.err, rfl⟩
  | ok p =>
    obtain ⟨n, r⟩ := p
    have HG := Lib.hid h; clear h
    obtain ⟨q, hq⟩ : ∃ q, takeN n r = q := ⟨_, rfl⟩
    have HQ := Lib.hid hq; clear hq
    simp only [HQ.out]
    go_enter Tryd.func31, Tryd.ntmps31
    go_wp2_with (first
      | (go_at_call 29; refine (rget_any hs ha (n := 2) (by omega) (by omega) _ HG.out).mono ?_; rintro e w1 ⟨p, rfl, hp, rfl⟩)
      | (go_at_call 46; refine (run_any hs hm (by have h1 := hp.le; have h2 := hl.out; omega) _ (by omega) q (by simpa [hp.drop] using HQ.out)).mono ?_; rintro e w2 ⟨q2, rfl, hq2, rfl⟩))
    go_ret3
    exact ⟨_, rfl, hq2, rfl⟩

end Go.Proofs.Sb
