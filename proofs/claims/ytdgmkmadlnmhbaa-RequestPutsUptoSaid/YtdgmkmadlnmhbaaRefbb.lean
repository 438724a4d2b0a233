/- Walks over signalboxref02's Inet, GetInet, Consistency, GetConsistency. Conditions: lengths up to 2^47. -/
import Derived.Test.YtdgmkmadlnmhbaaRefb
import Derived.Test.YtdgmkmadlnmhbaaArrb
set_option linter.unusedVariables false
set_option linter.unusedSimpArgs false
namespace Go.Proofs.Sb
open Go.RowKit _root_.Sb

theorem rcons_any (x : Int) (w : World) (h0 : 0 ≤ x) (hx : x < 65536) (r : Wr) (hr : cons x.toNat = r) :
    Calls Try.prog 66 #[.int .u16 x] w fun e w' => ∃ A n c, e = .returned (.tuple #[.slice A n c, .int .i64 (werr r)]) ∧ Own w.heap.size w' A n c (wval r) ∧ Below w.heap.size w w' := by
  subst hr
  unfold cons
  by_cases h : 10 < x
  · rw [if_pos (by omega)]
    go_enter Try.func66, Try.ntmps66
    go_wp2_with fail
    go_ret2
    exact ⟨_, _, _, rfl, Own.nil, Below.refl _ _⟩
  · rw [if_neg (by omega)]
    have hw8 : IntKind.u8.wrap x = x := by rw [IntKind.wrap_u8]; omega
    go_enter Try.func66, Try.ntmps66
    go_wp2_with fail
    go_ret2
    refine ⟨_, _, _, rfl, own_lit w _ 2 (enc 2 x.toNat) ?_ (by rw [enc_length]) (by decide) (Nat.le_refl _) (by simp), (by repeat (first | exact Below.refl _ _ | assumption | refine Below.drew ?_ | refine below_drewN ?_ _ | refine Below.alloc ?_ (by simp) _ | refine Below.setCell ?_ (by simp) _))⟩
    obtain ⟨k, rfl⟩ := Int.eq_ofNat_of_zero_le h0
    have hk : k ≤ 10 := by omega
    have : k = 0 ∨ k = 1 ∨ k = 2 ∨ k = 3 ∨ k = 4 ∨ k = 5 ∨ k = 6 ∨ k = 7 ∨ k = 8 ∨ k = 9 ∨ k = 10 := by omega
    rcases this with rfl | rfl | rfl | rfl | rfl | rfl | rfl | rfl | rfl | rfl | rfl <;> rfl

theorem rgetCons_any {S : Nat → Prop} {A : Option Addr} {m c a : Nat} {bs : B} {w : World} (hs : Sl S w A m c bs) (ha : a ≤ m) (r : Res Nat) (hr : getCons (bs.drop a) = r) :
    Calls Try.prog 98 #[.slice A m c, .int .i64 (a : Int)] w fun e w' => ∃ q : Nat, e = .returned (.tuple #[.int .u16 (rval 0 r : Nat), .int .i64 (q : Int), .int .i64 (rerr r)]) ∧ AtR bs q r ∧ w = w' := by
  subst hr
  unfold getCons
  cases h : getN 2 (bs.drop a) with
  | error e =>
    obtain rfl := getN_err h
    have HG := Lib.hid h; clear h
    go_enter Try.func98, Try.ntmps98
    go_wp2_with fail
    refine (rget_any (n := 2) hs ha (by omega) (by omega) _ HG.out).mono ?_
    rintro e w1 ⟨p, rfl, hp, rfl⟩
    go_wp2_with fail
    go_ret3
    exact ⟨0, rfl, AtR.err, rfl⟩
  | ok p =>
    obtain ⟨x, r1⟩ := p
    have hx := (getN_ok h).2.2.2
    simp only [Nat.reducePow] at hx
    have HG := Lib.hid h; clear h
    by_cases h10 : x > 10
    · simp only [h10, if_true]
      have h10' : 10 < x := h10
      clear h10
      go_enter Try.func98, Try.ntmps98
      go_wp2_with fail
      refine (rget_any (n := 2) hs ha (by omega) (by omega) _ HG.out).mono ?_
      rintro e w1 ⟨p, rfl, hp, rfl⟩
      go_wp2_with fail
      go_ret3
      exact ⟨0, rfl, AtR.err, rfl⟩
    · simp only [h10, if_false]
      have h10' : x ≤ 10 := by omega
      clear h10
      go_enter Try.func98, Try.ntmps98
      go_wp2_with fail
      refine (rget_any (n := 2) hs ha (by omega) (by omega) _ HG.out).mono ?_
      rintro e w1 ⟨p, rfl, hp, rfl⟩
      have hpl := hp.le
      have HPD := Lib.hid hp.drop
      clear hp
      go_wp2_with fail
      go_ret3
      exact ⟨p, rfl, AtR.ok hpl HPD.out, rfl⟩

theorem gcellr {w w' : World} {row : Option Nat} (hg : w.grownBy w' row) {b o : Nat} {v : Value} (hr : some b ≠ row) (h : w.cell? ⟨b, o, none⟩ = some v) : w'.cell? ⟨b, o, none⟩ = some v :=
  (World.cell?_of_block (hg.block b (World.block_lt_of_cell? w ⟨b, o, none⟩ h) hr)).trans h
theorem bv_one8 {n : Nat} (h : n < 256) : [Value.int .u8 (n : Int)] = bv [UInt8.ofNat n] := by
  simp [bv]
  omega

end Go.Proofs.Sb
