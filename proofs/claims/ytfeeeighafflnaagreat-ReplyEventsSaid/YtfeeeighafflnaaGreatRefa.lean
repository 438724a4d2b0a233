/- Walks over the reference of layer 1. No conditions. -/
import Derived.Test.YtfeeeighafflnaaGreatOct
set_option linter.unusedVariables false
set_option linter.unusedSimpArgs false
namespace Go.Proofs.Sb
open Go.RowKit _root_.Sb

set_option maxHeartbeats 400000 in
theorem rget_err (A : Option Addr) (m c a n : Nat) (w : World) (_hm : m ≤ 9223372036854775807) (ha : a ≤ m) (h1 : 1 ≤ n) (h2 : n ≤ 8) (hn : m < a + n) :
    Calls Tryz.prog 35 #[.slice A m c, .int .i64 (a : Int), .int .i64 (n : Int)] w fun e w' => e = .returned (.tuple #[.int .u64 0, .int .i64 0, .int .i64 10]) ∧ w = w' := by
  go_enter Tryz.func35, Tryz.ntmps35
  go_wp2_with fail
  go_ret3
  exact ⟨rfl, rfl⟩

set_option maxHeartbeats 400000 in
theorem rget_ok {S : Nat → Prop} {A : Option Addr} {m c a n : Nat} {bs : B} {w : World} (hs : Sl S w A m c bs) (h1 : 1 ≤ n) (h2 : n ≤ 8) (hn : a + n ≤ m) :
    Calls Tryz.prog 35 #[.slice A m c, .int .i64 (a : Int), .int .i64 (n : Int)] w fun e w' => e = .returned (.tuple #[.int .u64 (be ((bs.drop a).take n) : Int), .int .i64 ((a + n : Nat) : Int), .int .i64 0]) ∧ w = w' := by
  have hm := hs.cap
  have hmc := hs.capMax
  obtain ⟨b, o, rfl, hS, hb, HC⟩ := hs.addr (by omega)
  have HS := Lib.hid hs; clear hs
  go_enter Tryz.func35, Tryz.ntmps35
  go_wp2_with fail
  go_loop [9, 10] (fun x i => ∃ k : Nat, k ≤ n ∧ i = .int .i64 k ∧ x = .int .u64 (be ((bs.drop a).take k) : Int)) (fun _ i => n - (intOf i).toNat)
  case atStart => exact ⟨0, by omega, rfl, by simp [be]⟩
  case round =>
    obtain ⟨k, hk, rfl, rfl⟩ := hrel
    by_cases hlt : k < n
    · have hkl : a + k < bs.length := by have := HS.out.len; omega
      have hcell := HC.out (a + k) hkl
      have hbd : (bs[a + k].toNat : Int) < 256 := by have := bs[a + k].toNat_lt; omega
      have hbb : (be ((bs.drop a).take k) : Int) < 72057594037927936 := by have := be_bound (bs.drop a) k (by omega); omega
      go_wp2_with fail
      go_round
      case rel =>
        refine ⟨k + 1, by omega, by go_num, ?_⟩
        rw [be_take_succ (bs.drop a) k (by simp; omega), List.getElem_drop]
        go_num
      case measure => simp [intOf]; omega
    · obtain rfl : k = n := by omega
      go_wp2_with fail
      go_ret3
      exact ⟨by simp, rfl⟩

theorem rget_any {S : Nat → Prop} {A : Option Addr} {m c a n : Nat} {bs : B} {w : World} (hs : Sl S w A m c bs) (ha : a ≤ m) (h1 : 1 ≤ n) (h2 : n ≤ 8) (r : Res Nat) (hr : getN n (bs.drop a) = r) :
    Calls Tryz.prog 35 #[.slice A m c, .int .i64 (a : Int), .int .i64 (n : Int)] w fun e w' => ∃ q : Nat, e = .returned (.tuple #[.int .u64 (rval 0 r : Nat), .int .i64 (q : Int), .int .i64 (rerr r)]) ∧ AtR bs q r ∧ w = w' := by
  have hl := hs.len
  subst hr
  unfold getN
  by_cases h : (bs.drop a).length < n
  · rw [if_pos h]
    rw [List.length_drop] at h
    refine (rget_err A m c a n w (by have := hs.cap; have := hs.capMax; omega) ha h1 h2 (by omega)).mono ?_
    rintro e w' ⟨rfl, rfl⟩
    exact ⟨0, rfl, AtR.err, rfl⟩
  · rw [if_neg h]
    rw [List.length_drop] at h
    refine (rget_ok hs h1 h2 (by omega)).mono ?_
    rintro e w' ⟨rfl, rfl⟩
    exact ⟨a + n, rfl, AtR.ok (by omega) (by simp [List.drop_drop]), rfl⟩

set_option maxHeartbeats 1000000 in
theorem rput_any (x : Int) (n : Nat) (w : World) (h1 : 1 ≤ n) (h2 : n ≤ 8) (h0 : 0 ≤ x) (hx : x < 18446744073709551616) :
    Calls Tryz.prog 29 #[.int .u64 x, .int .i64 (n : Int)] w fun e w' => ∃ A m c, e = .returned (.slice A m c) ∧ Own w.heap.size w' A m c (enc n x.toNat) ∧ Below w.heap.size w w' := by
  go_enter Tryz.func29, Tryz.ntmps29
  go_wp2_with fail
  go_loopw [5, 6, 7, 8] (fun v i _ _ wr => ∃ (k : Nat) (A : Option Addr) (m c : Nat), k ≤ n ∧ i = .int .i64 ((n : Int) - 1 - k) ∧ v = .slice A m c ∧ Own w.heap.size wr A m c ((enc n x.toNat).take k) ∧ Below w.heap.size w wr) (fun _ i _ _ _ => (intOf i + 1).toNat)
  case atStart => exact ⟨0, none, 0, 0, by omega, by simp, rfl, Own.nil, Below.refl _ _⟩
  case round =>
    obtain ⟨k, A, m, c, hk, rfl, rfl, hown, hb⟩ := hrel
    have hsz := hb.size
    obtain ⟨wo, rfl⟩ : ∃ wo : World, wo = wr := ⟨_, rfl⟩
    by_cases hlt : k < n
    · have H := Lib.hid hown; clear hown
      go_wp2_with fail
      go_loop [7, 8] (fun y j => ∃ t : Nat, (t : Int) ≤ (n : Int) - 1 - k ∧ j = .int .i64 t ∧ y = .int .u64 (x / 256 ^ t)) (fun _ j => (n - (intOf j).toNat))
      case atStart => exact ⟨0, by omega, rfl, by simp⟩
      case round =>
        obtain ⟨t, ht, rfl, rfl⟩ := hrel
        have hy0 : 0 ≤ x / 256 ^ t := Int.ediv_nonneg h0 (by exact Int.le_of_lt (Int.pow_pos (by omega)))
        have hy1 : x / 256 ^ t < 18446744073709551616 := by
          have : x / 256 ^ t ≤ x := Int.ediv_le_self _ h0
          omega
        by_cases hlt2 : (t : Int) < (n : Int) - 1 - k
        · have hdd := Lib.hid (show x / 256 ^ t / 256 = x / 256 ^ (t + 1) by rw [Int.pow_succ, Int.ediv_ediv_of_nonneg (Int.le_of_lt (Int.pow_pos (by omega)))])
          generalize x / 256 ^ t = y at *
          go_wp2_with fail
          go_round
          case rel => exact ⟨t + 1, by omega, by go_num, by rw [hdd.out]⟩
          case measure => simp [intOf]; omega
        · have het := Lib.hid (show t = n - 1 - k by omega)
          generalize hY : x / 256 ^ t = y at *
          have HY := Lib.hid hY; clear hY
          have hv := Lib.hid (show y % 256 = ((enc n x.toNat)[k]'(by rw [enc_length]; exact hlt)).toNat by
            have e := encAt_int x n (n - 1 - k) h0 (by omega)
            rw [show n - 1 - (n - 1 - k) = k by omega, Int.pow_mul] at e
            rw [← HY.out, het.out]
            simp only [enc, List.getElem_map, List.getElem_range]
            exact e.symm)
          have hlen := Lib.hid (show ((enc n x.toNat).take k).length = k by rw [List.length_take, enc_length]; omega)
          go_wp2_with (first | (at_builtin; refine wpList_app rfl _ _ rfl w.heap.size _ _ _ _ rfl (H.out.alloc _) _ _ _ _ [(enc n x.toNat)[k]'(by rw [enc_length]; exact hlt)] rfl (sl_lit _ _ _ _ (by simp [bv, hv.out]) (by simp) (by decide) rfl) (by rw [hlen.out]; simp; omega) (by simp; omega) ?_; intro A1 n1 c1 w1 hown1 hg1))
          go_roundw
          case rel =>
            refine ⟨k + 1, _, _, _, by omega, by go_num, rfl, ?_, (hb.alloc hsz _).grown hg1 (by simp; omega) (fun b hb => (H.out.block b hb).1)⟩
            rw [List.take_succ_eq_append_getElem (by rw [enc_length]; exact hlt)]
            exact hown1
          case measure => simp [intOf]; omega
    · obtain rfl : k = n := by omega
      have H := Lib.hid hown; clear hown
      go_wp2_with fail
      go_ret
      refine ⟨_, _, _, rfl, ?_, hb⟩
      have := H.out
      rwa [List.take_of_length_le (by rw [enc_length]; exact Nat.le_refl _)] at this

theorem sbe_small (l : B) (k : Nat) (hk : k < 8) : -36028797018963968 ≤ sbe (l.take k) ∧ sbe (l.take k) < 36028797018963968 := by
  by_cases h : l.take k = []
  · rw [h]; decide
  · have h1 := sbe_bound _ h
    have h2 : (l.take k).length ≤ 7 := by rw [List.length_take]; omega
    have h3 : 256 ^ (l.take k).length ≤ 256 ^ 7 := Nat.pow_le_pow_right (by omega) h2
    omega

set_option maxHeartbeats 1000000 in
theorem rsigned_any (x : Int) (n : Nat) (w : World) (h1 : 1 ≤ n) (h2 : n ≤ 8) (h0 : 0 ≤ x) (hx : x.toNat < 256 ^ n) :
    Calls Tryz.prog 96 #[.int .u64 x, .int .i64 (n : Int)] w fun e w' => e = .returned (.int .i64 (sgn n x.toNat)) ∧ Below w.heap.size w w' := by
  have hx2 : x < 18446744073709551616 := by
    have h3 : 256 ^ n ≤ 256 ^ 8 := Nat.pow_le_pow_right (by omega) h2
    omega
  have HX := Lib.hid hx; clear hx
  go_enter Tryz.func96, Tryz.ntmps96
  go_wp2_with (first | (go_at_call 29; refine (rput_any x n _ h1 h2 h0 hx2).mono ?_; rintro e w1 ⟨A, m, c, rfl, ho, hb⟩))
  have hlen := ho.len
  rw [enc_length] at hlen
  subst hlen
  have hcap := ho.sl.capMax
  have hmc := ho.sl.cap
  obtain ⟨g, o, rfl, hS, hgb, HC⟩ := ho.sl.addr (by omega)
  have HO := Lib.hid ho; clear ho
  go_loop [6, 7, 8] (fun v i _ => ∃ k : Nat, k ≤ m ∧ i = .int .i64 k ∧ v = .int .i64 (sbe ((enc m x.toNat).take k))) (fun _ i _ => m - (intOf i).toNat)
  case atStart => exact ⟨0, by omega, rfl, rfl⟩
  case round =>
    obtain ⟨k, hk, rfl, rfl⟩ := hrel
    by_cases hlt : k < m
    · have hkl : k < (enc m x.toNat).length := by rw [enc_length]; exact hlt
      have hcell := HC.out k hkl
      have hb256 : ((enc m x.toNat)[k].toNat : Int) < 256 := by have := (enc m x.toNat)[k].toNat_lt; omega
      obtain ⟨hs1, hs2⟩ := sbe_small (enc m x.toNat) k (by omega)
      have htake := Lib.hid (List.take_succ_eq_append_getElem hkl)
      by_cases hk0 : k = 0
      · subst hk0
        clear hs1 hs2
        rw [Nat.add_zero] at hcell
        have hz : sbe ((enc m x.toNat).take 0) = 0 := rfl
        rw [hz]
        clear hz
        have hone := Lib.hid (sbe_one (enc m x.toNat)[0])
        generalize (enc m x.toNat)[0] = b at *
        by_cases hge : 128 ≤ (b.toNat : Int)
        all_goals
          go_wp2_with fail
          go_round
          case rel =>
            refine ⟨1, by omega, by rfl, ?_⟩
            rw [htake.out]
            simp only [List.take_zero, List.nil_append, hone.out]
            congr 1
            first
              | (rw [if_pos (by omega)]; done)
              | (rw [if_neg (by omega), Int.sub_zero]; done)
          case measure => simp [intOf]; omega
      · have hkb : ((k : Int) == 0) = false := by simp; omega
        have hsn := Lib.hid (sbe_snoc ((enc m x.toNat).take k) (enc m x.toNat)[k] (by intro e; have := congrArg List.length e; rw [List.length_take, List.length_nil] at this; omega))
        generalize (enc m x.toNat)[k] = b at *
        go_wp2_with fail
        go_round
        case rel => exact ⟨k + 1, by omega, by go_num, by rw [htake.out, hsn.out]⟩
        case measure => simp [intOf]; omega
    · obtain rfl : k = m := by omega
      go_wp2_with fail
      go_ret
      refine ⟨ret_int ?_, hb⟩
      rw [List.take_of_length_le (by rw [enc_length]; exact Nat.le_refl _), sbe_enc _ _ h1 HX.out]
end Go.Proofs.Sb
