/- Walk over request.Params's flags. No conditions. (written by gen_rqflags.py) -/
import Derived.Test.YtdgmkmadlnmhbaaRqa
import Derived.Test.YtdgmkmadlnmhbaaRqi
set_option linter.unusedVariables false
set_option linter.unusedSimpArgs false
namespace Sb
def fl7 (a b c d e f g : Bool) : Nat := a.toNat + 2 * b.toNat + 4 * c.toNat + 8 * d.toNat + 16 * e.toNat + 32 * f.toNat + 64 * g.toNat
/-- the first k of them -/
def flK (a b c d e f g : Bool) (k : Nat) : Nat := fl7 (a && decide (0 < k)) (b && decide (1 < k)) (c && decide (2 < k)) (d && decide (3 < k)) (e && decide (4 < k)) (f && decide (5 < k)) (g && decide (6 < k))
theorem fl7_lt : ∀ a b c d e f g, fl7 a b c d e f g < 128 := by decide +kernel
theorem fl7_bit : ∀ a b c d e f g, bitB (fl7 a b c d e f g) 0 = a ∧ bitB (fl7 a b c d e f g) 1 = b ∧ bitB (fl7 a b c d e f g) 2 = c ∧ bitB (fl7 a b c d e f g) 3 = d ∧ bitB (fl7 a b c d e f g) 4 = e ∧ bitB (fl7 a b c d e f g) 5 = f ∧ bitB (fl7 a b c d e f g) 6 = g := by decide +kernel
end Sb
namespace Go.Proofs.Sb
open Go.RowKit _root_.Sb
theorem flK_0 : ∀ a b c d e f g, flK a b c d e f g 0 = 0 := by decide +kernel
theorem flK_7 : ∀ a b c d e f g, flK a b c d e f g 7 = fl7 a b c d e f g := by decide +kernel
theorem or_k0 : ∀ a b c d e f g : Bool, a = true → bits .or .u8 ((flK a b c d e f g 0 : Nat) : Int) 1 = ((flK a b c d e f g 1 : Nat) : Int) := by decide +kernel
theorem no_k0 : ∀ a b c d e f g : Bool, a = false → flK a b c d e f g 1 = flK a b c d e f g 0 := by decide +kernel
theorem or_k1 : ∀ a b c d e f g : Bool, b = true → bits .or .u8 ((flK a b c d e f g 1 : Nat) : Int) 2 = ((flK a b c d e f g 2 : Nat) : Int) := by decide +kernel
theorem no_k1 : ∀ a b c d e f g : Bool, b = false → flK a b c d e f g 2 = flK a b c d e f g 1 := by decide +kernel
theorem or_k2 : ∀ a b c d e f g : Bool, c = true → bits .or .u8 ((flK a b c d e f g 2 : Nat) : Int) 4 = ((flK a b c d e f g 3 : Nat) : Int) := by decide +kernel
theorem no_k2 : ∀ a b c d e f g : Bool, c = false → flK a b c d e f g 3 = flK a b c d e f g 2 := by decide +kernel
theorem or_k3 : ∀ a b c d e f g : Bool, d = true → bits .or .u8 ((flK a b c d e f g 3 : Nat) : Int) 8 = ((flK a b c d e f g 4 : Nat) : Int) := by decide +kernel
theorem no_k3 : ∀ a b c d e f g : Bool, d = false → flK a b c d e f g 4 = flK a b c d e f g 3 := by decide +kernel
theorem or_k4 : ∀ a b c d e f g : Bool, e = true → bits .or .u8 ((flK a b c d e f g 4 : Nat) : Int) 16 = ((flK a b c d e f g 5 : Nat) : Int) := by decide +kernel
theorem no_k4 : ∀ a b c d e f g : Bool, e = false → flK a b c d e f g 5 = flK a b c d e f g 4 := by decide +kernel
theorem or_k5 : ∀ a b c d e f g : Bool, f = true → bits .or .u8 ((flK a b c d e f g 5 : Nat) : Int) 32 = ((flK a b c d e f g 6 : Nat) : Int) := by decide +kernel
theorem no_k5 : ∀ a b c d e f g : Bool, f = false → flK a b c d e f g 6 = flK a b c d e f g 5 := by decide +kernel
theorem or_k6 : ∀ a b c d e f g : Bool, g = true → bits .or .u8 ((flK a b c d e f g 6 : Nat) : Int) 64 = ((flK a b c d e f g 7 : Nat) : Int) := by decide +kernel
theorem no_k6 : ∀ a b c d e f g : Bool, g = false → flK a b c d e f g 7 = flK a b c d e f g 6 := by decide +kernel

set_option maxHeartbeats 8000000 in
set_option maxRecDepth 100000 in
theorem wflags_any {w : World} {p : Par} {A1 : Option Addr} {n1 c1 : Nat} {A2 : Option Addr} {n2 c2 : Nat} {A3 : Option Addr} {n3 c3 : Nat} :
    Calls Try.prog 58 #[.agg (parV p A1 n1 c1 A2 n2 c2 A3 n3 c3).toArray] w fun e w' => e = .returned (.int .u8 (fl7 (decide (0 < n1)) p.skip p.paged p.resumed p.serially p.timed (decide (0 < n2)) : Nat)) ∧ Below w.heap.size w w' := by
  obtain ⟨cons, values, names, skip, paged, page, resumed, state, serially, serial, timed, time⟩ := p
  simp only [parV]
  go_enter Try.func58, Try.ntmps58
  go_wp2_with fail
  go_loopw [3, 33] (fun acc i wr => ∃ k : Nat, k ≤ 7 ∧ i = .int .i64 (k : Int) ∧ acc = .int .u8 (flK (decide (0 < n1)) skip paged resumed serially timed (decide (0 < n2)) k : Nat) ∧ Hid (Below w.heap.size w wr) ∧ Hid (Bx (fun b => b = w.heap.size + 1) wr (w.heap.size + 1) [.bool (decide (0 < n1)), .int .u8 1, .bool skip, .int .u8 2, .bool paged, .int .u8 4, .bool resumed, .int .u8 8, .bool serially, .int .u8 16, .bool timed, .int .u8 32, .bool (decide (0 < n2)), .int .u8 64])) (fun _ i _ => (7 - intOf i).toNat)
  case atStart => exact ⟨0, by decide, rfl, by rw [flK_0]; rfl, Lib.hid (by repeat (first | exact Below.refl _ _ | assumption | refine Below.drew ?_ | refine below_drewN ?_ _ | refine Below.alloc ?_ (by first | (simp; done) | omega | (simp; omega)) _ | refine Below.setCell ?_ (by first | (simp; done) | omega | (simp; omega)) _)), Lib.hid (Bx.alloc (w.alloc _) #[.bool (decide (0 < n1)), .int .u8 1, .bool skip, .int .u8 2, .bool paged, .int .u8 4, .bool resumed, .int .u8 8, .bool serially, .int .u8 16, .bool timed, .int .u8 32, .bool (decide (0 < n2)), .int .u8 64] 160 (X := w.heap.size + 1) (S := fun b => b = w.heap.size + 1) (by simp) (by simp))⟩
  case round =>
    obtain ⟨k, hk, rfl, rfl, HBel, HBx⟩ := hrel
    have q := HBx.out.lt
    have q0 := HBel.out.size
    by_cases h7 : k = 7
    · subst h7
      rw [flK_7]
      go_wp2_with fail
      go_ret
      exact ⟨rfl, HBel.out⟩
    · have hk7 : k = 0 ∨ k = 1 ∨ k = 2 ∨ k = 3 ∨ k = 4 ∨ k = 5 ∨ k = 6 := by omega
      clear hk h7
      rcases hk7 with rfl | rfl | rfl | rfl | rfl | rfl | rfl
      · have e0 := HBx.out.c 0 _ rfl
        have e1 := HBx.out.c 1 _ rfl
        cases hb : (decide (0 < n1)) with
        | true =>
          rw [hb] at e0 HBx
          clear hb
          go_wp2_with fail
          exact ⟨⟨1, by decide, rfl, congrArg (Value.int .u8) (or_k0 true skip paged resumed serially timed (decide (0 < n2)) rfl), Lib.hid (HBel.out.alloc q0 _), Lib.hid (HBx.out.after ((Below.refl _ _).alloc (Nat.le_refl _) _))⟩, by simp [intOf]⟩
        | false =>
          rw [hb] at e0 HBx
          clear hb
          go_wp2_with fail
          exact ⟨⟨1, by decide, rfl, congrArg (fun x : Nat => Value.int .u8 (x : Int)) (no_k0 false skip paged resumed serially timed (decide (0 < n2)) rfl).symm, Lib.hid (HBel.out.alloc q0 _), Lib.hid (HBx.out.after ((Below.refl _ _).alloc (Nat.le_refl _) _))⟩, by simp [intOf]⟩
      · have e0 := HBx.out.c 2 _ rfl
        have e1 := HBx.out.c 3 _ rfl
        cases hb : skip with
        | true =>
          rw [hb] at e0 HBx
          clear hb
          go_wp2_with fail
          exact ⟨⟨2, by decide, rfl, congrArg (Value.int .u8) (or_k1 (decide (0 < n1)) true paged resumed serially timed (decide (0 < n2)) rfl), Lib.hid (HBel.out.alloc q0 _), Lib.hid (HBx.out.after ((Below.refl _ _).alloc (Nat.le_refl _) _))⟩, by simp [intOf]⟩
        | false =>
          rw [hb] at e0 HBx
          clear hb
          go_wp2_with fail
          exact ⟨⟨2, by decide, rfl, congrArg (fun x : Nat => Value.int .u8 (x : Int)) (no_k1 (decide (0 < n1)) false paged resumed serially timed (decide (0 < n2)) rfl).symm, Lib.hid (HBel.out.alloc q0 _), Lib.hid (HBx.out.after ((Below.refl _ _).alloc (Nat.le_refl _) _))⟩, by simp [intOf]⟩
      · have e0 := HBx.out.c 4 _ rfl
        have e1 := HBx.out.c 5 _ rfl
        cases hb : paged with
        | true =>
          rw [hb] at e0 HBx
          clear hb
          go_wp2_with fail
          exact ⟨⟨3, by decide, rfl, congrArg (Value.int .u8) (or_k2 (decide (0 < n1)) skip true resumed serially timed (decide (0 < n2)) rfl), Lib.hid (HBel.out.alloc q0 _), Lib.hid (HBx.out.after ((Below.refl _ _).alloc (Nat.le_refl _) _))⟩, by simp [intOf]⟩
        | false =>
          rw [hb] at e0 HBx
          clear hb
          go_wp2_with fail
          exact ⟨⟨3, by decide, rfl, congrArg (fun x : Nat => Value.int .u8 (x : Int)) (no_k2 (decide (0 < n1)) skip false resumed serially timed (decide (0 < n2)) rfl).symm, Lib.hid (HBel.out.alloc q0 _), Lib.hid (HBx.out.after ((Below.refl _ _).alloc (Nat.le_refl _) _))⟩, by simp [intOf]⟩
      · have e0 := HBx.out.c 6 _ rfl
        have e1 := HBx.out.c 7 _ rfl
        cases hb : resumed with
        | true =>
          rw [hb] at e0 HBx
          clear hb
          go_wp2_with fail
          exact ⟨⟨4, by decide, rfl, congrArg (Value.int .u8) (or_k3 (decide (0 < n1)) skip paged true serially timed (decide (0 < n2)) rfl), Lib.hid (HBel.out.alloc q0 _), Lib.hid (HBx.out.after ((Below.refl _ _).alloc (Nat.le_refl _) _))⟩, by simp [intOf]⟩
        | false =>
          rw [hb] at e0 HBx
          clear hb
          go_wp2_with fail
          exact ⟨⟨4, by decide, rfl, congrArg (fun x : Nat => Value.int .u8 (x : Int)) (no_k3 (decide (0 < n1)) skip paged false serially timed (decide (0 < n2)) rfl).symm, Lib.hid (HBel.out.alloc q0 _), Lib.hid (HBx.out.after ((Below.refl _ _).alloc (Nat.le_refl _) _))⟩, by simp [intOf]⟩
      · have e0 := HBx.out.c 8 _ rfl
        have e1 := HBx.out.c 9 _ rfl
        cases hb : serially with
        | true =>
          rw [hb] at e0 HBx
          clear hb
          go_wp2_with fail
          exact ⟨⟨5, by decide, rfl, congrArg (Value.int .u8) (or_k4 (decide (0 < n1)) skip paged resumed true timed (decide (0 < n2)) rfl), Lib.hid (HBel.out.alloc q0 _), Lib.hid (HBx.out.after ((Below.refl _ _).alloc (Nat.le_refl _) _))⟩, by simp [intOf]⟩
        | false =>
          rw [hb] at e0 HBx
          clear hb
          go_wp2_with fail
          exact ⟨⟨5, by decide, rfl, congrArg (fun x : Nat => Value.int .u8 (x : Int)) (no_k4 (decide (0 < n1)) skip paged resumed false timed (decide (0 < n2)) rfl).symm, Lib.hid (HBel.out.alloc q0 _), Lib.hid (HBx.out.after ((Below.refl _ _).alloc (Nat.le_refl _) _))⟩, by simp [intOf]⟩
      · have e0 := HBx.out.c 10 _ rfl
        have e1 := HBx.out.c 11 _ rfl
        cases hb : timed with
        | true =>
          rw [hb] at e0 HBx
          clear hb
          go_wp2_with fail
          exact ⟨⟨6, by decide, rfl, congrArg (Value.int .u8) (or_k5 (decide (0 < n1)) skip paged resumed serially true (decide (0 < n2)) rfl), Lib.hid (HBel.out.alloc q0 _), Lib.hid (HBx.out.after ((Below.refl _ _).alloc (Nat.le_refl _) _))⟩, by simp [intOf]⟩
        | false =>
          rw [hb] at e0 HBx
          clear hb
          go_wp2_with fail
          exact ⟨⟨6, by decide, rfl, congrArg (fun x : Nat => Value.int .u8 (x : Int)) (no_k5 (decide (0 < n1)) skip paged resumed serially false (decide (0 < n2)) rfl).symm, Lib.hid (HBel.out.alloc q0 _), Lib.hid (HBx.out.after ((Below.refl _ _).alloc (Nat.le_refl _) _))⟩, by simp [intOf]⟩
      · have e0 := HBx.out.c 12 _ rfl
        have e1 := HBx.out.c 13 _ rfl
        cases hb : (decide (0 < n2)) with
        | true =>
          rw [hb] at e0 HBx
          clear hb
          go_wp2_with fail
          exact ⟨⟨7, by decide, rfl, congrArg (Value.int .u8) (or_k6 (decide (0 < n1)) skip paged resumed serially timed true rfl), Lib.hid (HBel.out.alloc q0 _), Lib.hid (HBx.out.after ((Below.refl _ _).alloc (Nat.le_refl _) _))⟩, by simp [intOf]⟩
        | false =>
          rw [hb] at e0 HBx
          clear hb
          go_wp2_with fail
          exact ⟨⟨7, by decide, rfl, congrArg (fun x : Nat => Value.int .u8 (x : Int)) (no_k6 (decide (0 < n1)) skip paged resumed serially timed false rfl).symm, Lib.hid (HBel.out.alloc q0 _), Lib.hid (HBx.out.after ((Below.refl _ _).alloc (Nat.le_refl _) _))⟩, by simp [intOf]⟩
end Go.Proofs.Sb
