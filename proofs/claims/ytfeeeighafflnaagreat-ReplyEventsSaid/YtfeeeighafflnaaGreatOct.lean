/- Walks over the package octets. No conditions. -/
import Derived.Test.YtfeeeighafflnaaGreatBase
set_option linter.unusedVariables false
set_option linter.unusedSimpArgs false
namespace Go.Proofs.Sb
open Go.RowKit _root_.Sb

theorem size_yes (n : Int) (w : World) (h1 : 1 ≤ n) (h2 : n ≤ 8) :
    Calls Tryz.prog 97 #[.int .i64 n] w fun e w' => e = .returned (.bool true) ∧ w = w' := by
  go_enter Tryz.func97, Tryz.ntmps97
  go_wp2
  go_ret
  exact ⟨by simp, rfl⟩

theorem or_shift (x b : Nat) (hx : x < 72057594037927936) (hb : b < 256) : bits .or .u64 (IntKind.u64.wrap ((x : Int) * 256)) (b : Int) = ((x * 256 + b : Nat) : Int) := by
  have e : IntKind.u64.wrap ((x : Int) * 256) = ((x * 256 : Nat) : Int) := by
    rw [IntKind.wrap_u64]; omega
  rw [e, u64_or_nat _ _ (by omega) (by omega), nat_join 8 (x * 256) b (by omega) hb]
theorem be_bound (bs : B) (k : Nat) (hk : k < 8) : be (bs.take k) < 72057594037927936 := by
  have h := be_lt (bs.take k)
  have h2 : (bs.take k).length ≤ 7 := by rw [List.length_take]; omega
  have h3 : 256 ^ (bs.take k).length ≤ 256 ^ 7 := Nat.pow_le_pow_right (by omega) h2
  omega

set_option maxHeartbeats 400000 in
theorem get_err (A : Option Addr) (m c : Nat) (n : Nat) (w : World) (_hm : m ≤ 9223372036854775807) (h1 : 1 ≤ n) (h2 : n ≤ 8) (hn : m < n) :
    Calls Tryz.prog 68 #[.slice A m c, .int .i64 (n : Int)] w fun e w' => e = .returned (.tuple #[.int .u64 0, .slice none 0 0, .int .i64 10]) ∧ w = w' := by
  go_enter Tryz.func68, Tryz.ntmps68
  go_wp2_with (first | (go_at_call 97; refine (size_yes _ _ (by omega) (by omega)).mono ?_; rintro e w' ⟨rfl, rfl⟩))
  go_ret3
  exact ⟨rfl, rfl⟩

set_option maxHeartbeats 400000 in
theorem get_ok {S : Nat → Prop} {A : Option Addr} {m c : Nat} {n : Nat} {bs : B} {w : World} (hs : Sl S w A m c bs) (h1 : 1 ≤ n) (h2 : n ≤ 8) (hn : n ≤ m) :
    Calls Tryz.prog 68 #[.slice A m c, .int .i64 (n : Int)] w fun e w' => ∃ A' m' c', e = .returned (.tuple #[.int .u64 (be (bs.take n) : Int), .slice A' m' c', .int .i64 0]) ∧ Sl S w' A' m' c' (bs.drop n) ∧ Below w.heap.size w w' := by
  have hm := hs.cap
  have hmc := hs.capMax
  obtain ⟨b, o, rfl, hS, hb, HC⟩ := hs.addr (by omega)
  have HS := Lib.hid hs; clear hs
  go_enter Tryz.func68, Tryz.ntmps68
  go_wp2_with (first | (go_at_call 97; refine (size_yes _ _ (by omega) (by omega)).mono ?_; rintro e w' ⟨rfl, rfl⟩))
  go_loop [7, 23] (fun x i => ∃ k : Nat, k ≤ n ∧ i = .int .i64 k ∧ x = .int .u64 (be (bs.take k) : Int)) (fun _ i => n - (intOf i).toNat)
  case atStart => exact ⟨0, by omega, rfl, by simp [be]⟩
  case round =>
    obtain ⟨k, hk, rfl, rfl⟩ := hrel
    by_cases hlt : k < n
    · have hkl : k < bs.length := by have := HS.out.len; omega
      have hcell := HC.out k hkl
      have hbd : (bs[k].toNat : Int) < 256 := by have := bs[k].toNat_lt; omega
      have hor := Lib.hid (or_shift (be (bs.take k)) bs[k].toNat (be_bound bs k (by omega)) bs[k].toNat_lt)
      go_wp2_with fail
      go_round
      case rel => exact ⟨k + 1, by omega, by go_num, by rw [be_take_succ bs k hkl, hor.out]⟩
      case measure => simp [intOf]; omega
    · obtain rfl : k = n := by omega
      have hcut := run_cut (some ⟨b, o, none⟩) m c k .i64 hn
      go_wp2_with fail
      go_quiet (fail)
      go_wp2_with fail
      go_ret3
      exact ⟨_, _, _, rfl, (HS.out.cut k hn).after (below_self_drewN _ _ _), below_self_drewN _ _ _⟩

theorem get_any {S : Nat → Prop} {A : Option Addr} {m c : Nat} {n : Nat} {bs : B} {w : World} (hs : Sl S w A m c bs) (h1 : 1 ≤ n) (h2 : n ≤ 8) (r : Res Nat) (hr : getN n bs = r) :
    Calls Tryz.prog 68 #[.slice A m c, .int .i64 (n : Int)] w fun e w' => ∃ A' m' c', e = .returned (.tuple #[.int .u64 (rval 0 r : Nat), .slice A' m' c', .int .i64 (rerr r)]) ∧ Sl S w' A' m' c' (rrest r) ∧ Below w.heap.size w w' := by
  have hl := hs.len
  subst hr
  unfold getN
  by_cases h : bs.length < n
  · rw [if_pos h]
    refine (get_err A m c n w (by have := hs.cap; have := hs.capMax; omega) h1 h2 (by omega)).mono ?_
    rintro e w' ⟨rfl, rfl⟩
    exact ⟨_, _, _, rfl, Sl.nil, Below.refl _ _⟩
  · rw [if_neg h]
    exact get_ok hs h1 h2 (by omega)

theorem encAt_int (x : Int) (n k : Nat) (h0 : 0 ≤ x) (hk : k < n) : ((encAt n x.toNat (n - 1 - k)).toNat : Int) = x / 2 ^ (8 * k) % 256 := by
  obtain ⟨y, rfl⟩ := Int.eq_ofNat_of_zero_le h0
  have e : n - 1 - (n - 1 - k) = k := by omega
  have e2 : ((y / 256 ^ k % 256 : Nat) : Int) = (y : Int) / 2 ^ (8 * k) % 256 := by
    rw [Int.natCast_emod, Int.natCast_ediv, Int.natCast_pow, Int.pow_mul]
    rfl
  rw [encAt, e, Int.toNat_natCast, UInt8.toNat_ofNat', ← e2]
theorem enc_step (n x k : Nat) (hk : k < n) : ((List.range n).map fun j => if n - 1 - j < k then encAt n x j else 0).set (n - 1 - k) (encAt n x (n - 1 - k)) = (List.range n).map fun j => if n - 1 - j < k + 1 then encAt n x j else 0 := by
  apply List.ext_getElem
  · simp
  · intro j h1 h2
    simp at h1 h2
    rw [List.getElem_set]
    simp only [List.getElem_map, List.getElem_range]
    by_cases h : n - 1 - k = j
    · subst h; rw [if_pos rfl, if_pos (by omega)]
    · rw [if_neg h]
      by_cases h3 : n - 1 - j < k
      · rw [if_pos h3, if_pos (by omega)]
      · rw [if_neg h3, if_neg (by omega)]
theorem enc_done (n x : Nat) : ((List.range n).map fun j => if n - 1 - j < n then encAt n x j else 0) = enc n x := by
  unfold enc
  apply List.map_congr_left
  intro j hj
  have := List.mem_range.1 hj
  rw [if_pos (by omega)]

set_option maxHeartbeats 400000 in
theorem put_any (x : Int) (n : Nat) (w : World) (h1 : 1 ≤ n) (h2 : n ≤ 8) (h0 : 0 ≤ x) (_hx : x < 18446744073709551616) :
    Calls Tryz.prog 70 #[.int .u64 x, .int .i64 (n : Int)] w fun e w' => ∃ A m c, e = .returned (.slice A m c) ∧ Own w.heap.size w' A m c (enc n x.toNat) ∧ Below w.heap.size w w' := by
  obtain ⟨i0, hi, hz0, hz1, hz2⟩ := info_parts u8info
  go_enter Tryz.func70, Tryz.ntmps70
  go_wp2_with (first | (go_at_call 97; refine (size_yes _ _ (by omega) (by omega)).mono ?_; rintro e w' ⟨rfl, rfl⟩) | (at_make; refine wpList_make_full _ rfl _ _ 25 rfl w.heap.size 5 i0 (.int .u8 0) 1 Tryz.underlying25 hi hz0 hz1 _ _ _ _ n rfl rfl rfl rfl (by rw [hz2]; omega) (by unfold maxLen; omega) (Nat.le_refl _) ?_; intro w1 hown1 hg1))
  go_loopw [6, 13] (fun u i wr => ∃ k : Nat, k ≤ n ∧ i = .int .i64 k ∧ wr.ownsRow w.heap.size 5 1 (.slice (some ⟨w.heap.size, 0, none⟩) n n) n (bv ((List.range n).map fun j => if n - 1 - j < k then encAt n x.toNat j else 0)) ∧ Below w.heap.size w wr) (fun _ i _ => n - (intOf i).toNat)
  case atStart => 
    refine ⟨0, by omega, rfl, ?_, (Below.refl _ _).grown hg1 (Nat.le_refl _) (by simp)⟩
    rw [show (Value.int IntKind.u8 0).cells = #[Value.int IntKind.u8 0] from rfl, toList_madeCells_one] at hown1
    have e : (bv ((List.range n).map fun j => if n - 1 - j < 0 then encAt n x.toNat j else 0)) = List.replicate (n * 1) (Value.int .u8 0) := by
      rw [Nat.mul_one]
      apply List.ext_getElem
      · simp [bv]
      · intro j h1 h2
        simp [bv]
    rw [e]
    exact hown1
  case round =>
    obtain ⟨k, hk, rfl, hown, hb⟩ := hrel
    have hsz := hb.size
    by_cases hlt : k < n
    · obtain ⟨u, hc⟩ : ∃ u, wr.cell? ⟨w.heap.size, n - 1 - k, none⟩ = some u := by
        rw [hown.cellAt (n - 1 - k) (by omega)]
        exact ⟨_, List.getElem?_eq_getElem (by simp [bv]; omega)⟩
      have hf := hown.frozenAt (n - 1 - k)
      have H := Lib.hid hown; clear hown
      go_wp2_with fail
      go_roundw
      case rel =>
        refine ⟨k + 1, by omega, by go_num, ?_, hb.setCell (Nat.le_refl _) _⟩
        have := (H.out.stored (n - 1 - k) (.int .u8 (x / 2 ^ (8 * k) % 256))).1
        rw [← encAt_int x n k h0 hlt] at this ⊢
        rw [← enc_step n x.toNat k hlt]
        unfold bv at this ⊢
        rw [List.map_set]
        exact this
      case measure => simp [intOf]; omega
    · go_wp2_with fail
      go_ret
      obtain rfl : k = n := by omega
      refine ⟨_, _, _, rfl, ?_, hb⟩
      unfold Own
      rw [enc_done] at hown
      exact hown

/-- slices.Clone of bytes -/
theorem clone_any {S : Nat → Prop} {A : Option Addr} {m c : Nat} {bs : B} {w : World} (hs : Sl S w A m c bs) (hm : m ≤ 140737488355328) :
    Calls Tryz.prog 88 #[.slice A m c] w fun e w' => ∃ A' m' c', e = .returned (.slice A' m' c') ∧ Own w.heap.size w' A' m' c' bs ∧ Below w.heap.size w w' := by
  have q : ∀ (w : World) (a : Option Addr) (n c n' c' : Nat), (binOp .eql 25 (.slice a n c) (.slice none n' c')).run Tryz.prog w = .ok (.bool a.isNone) w := fun w a n c n' c' => Lib.run_eql_slice_nil w _ _ a n c n' c' Tryz.underlying25
  cases A with
  | none =>
    have hb : bs = [] := by
      cases bs with
      | nil => rfl
      | cons x l => obtain ⟨b, o, e, _⟩ := hs.addr (by have := hs.len; simp at this; omega); cases e
    subst hb
    go_enter Tryz.func88, Tryz.ntmps88
    go_wp2_with fail
    go_ret
    exact ⟨_, _, _, rfl, Own.nil, Below.refl _ _⟩
  | some a =>
    have hl := hs.len
    go_enter Tryz.func88, Tryz.ntmps88
    go_wp2_with (first | (at_builtin; refine wpList_app rfl _ _ rfl w.heap.size _ _ _ [] rfl (World.ownsRow_lit w #[] 0 (Nat.le_refl _) (by decide) rfl) S _ _ _ bs rfl (hs.after ((Below.refl _ _).alloc (Nat.le_refl _) _)) (by simp; omega) (by simp) ?_; intro A1 n1 c1 w1 hown1 hg1))
    go_ret
    exact ⟨_, _, _, rfl, hown1, ((Below.refl _ _).alloc (Nat.le_refl _) _).grown hg1 (by simp) (by simp)⟩

theorem take_err (A : Option Addr) (m c : Nat) (x : Int) (w : World) (hm : m ≤ 9223372036854775807) (hx : (m : Int) < x) :
    Calls Tryz.prog 95 #[.slice A m c, .int .u64 x] w fun e w' => e = .returned (.tuple #[.slice none 0 0, .slice none 0 0, .int .i64 10]) ∧ w = w' := by
  go_enter Tryz.func95, Tryz.ntmps95
  go_wp2_with fail
  go_ret3
  exact ⟨rfl, rfl⟩

theorem take_ok {S : Nat → Prop} {A : Option Addr} {m c : Nat} {bs : B} {w : World} (hs : Sl S w A m c bs) (hm : m ≤ 140737488355328) (k : Nat) (hk : k ≤ m) :
    Calls Tryz.prog 95 #[.slice A m c, .int .u64 (k : Int)] w fun e w' => ∃ A1 m1 c1 A2 m2 c2, e = .returned (.tuple #[.slice A1 m1 c1, .slice A2 m2 c2, .int .i64 0]) ∧ Own w.heap.size w' A1 m1 c1 (bs.take k) ∧ Sl S w' A2 m2 c2 (bs.drop k) ∧ Below w.heap.size w w' := by
  have hcut := run_cut A m c k .u64 hk
  have hhead := run_head A m c k .u64 (by have := hs.cap; omega)
  have hmc := hs.cap
  have hcm := hs.capMax
  have H := Lib.hid hs; clear hs
  go_enter Tryz.func95, Tryz.ntmps95
  go_wp2_with fail
  go_region_with (go_at_call 88; refine (clone_any ((H.out.take k hk).after (below_self_drewN _ _ _)) (by omega)).mono ?_; rintro e w1 ⟨A1, m1, c1, rfl, ho, hb⟩)
  go_wp2_with fail
  go_ret3
  exact ⟨_, _, _, _, _, _, rfl, ho, (H.out.cut k hk).after (Below.trans (below_self_drewN _ _ _) hb), Below.trans (below_self_drewN _ _ _) hb⟩

/-- octets.Take; x is any number -/
theorem take_any {S : Nat → Prop} {A : Option Addr} {m c : Nat} {bs : B} {w : World} (hs : Sl S w A m c bs) (hm : m ≤ 140737488355328) (x : Int) (h0 : 0 ≤ x) (r : Res B) (hr : takeN x.toNat bs = r) :
    Calls Tryz.prog 95 #[.slice A m c, .int .u64 x] w fun e w' => ∃ A1 m1 c1 A2 m2 c2, e = .returned (.tuple #[.slice A1 m1 c1, .slice A2 m2 c2, .int .i64 (rerr r)]) ∧ Own w.heap.size w' A1 m1 c1 (rval [] r) ∧ Sl S w' A2 m2 c2 (rrest r) ∧ Below w.heap.size w w' := by
  have hl := hs.len
  subst hr
  unfold takeN
  by_cases h : bs.length < x.toNat
  · rw [if_pos h]
    refine (take_err A m c x w (by omega) (by omega)).mono ?_
    rintro e w' ⟨rfl, rfl⟩
    exact ⟨_, _, _, _, _, _, rfl, Own.nil, Sl.nil, Below.refl _ _⟩
  · rw [if_neg h]
    obtain ⟨k, rfl⟩ := Int.eq_ofNat_of_zero_le h0
    exact take_ok hs hm k (by omega)

theorem ret_int {k : IntKind} {a b : Int} (h : a = b) : Ending.returned (.int k a) = .returned (.int k b) := by rw [h]
theorem signed4 (x : Int) (w : World) (h0 : 0 ≤ x) (h1 : x < 4294967296) :
    Calls Tryz.prog 103 #[.int .u64 x, .int .i64 4] w fun e w' => e = .returned (.int .i64 (sgn 4 x.toNat)) ∧ w = w' := by
  go_enter Tryz.func103, Tryz.ntmps103
  go_wp2_with (first | (go_at_call 97; refine (size_yes _ _ (by omega) (by omega)).mono ?_; rintro e w' ⟨rfl, rfl⟩))
  go_ret
  refine ⟨ret_int ?_, rfl⟩
  unfold wrap64 sgn
  simp only [Nat.reducePow, Nat.reduceDiv]
  split <;> omega
end Go.Proofs.Sb
