/- Numbers cut to sixteen bits, heads of slices by a remainder. No conditions. -/
import Derived.Test.YtenhgcgdhaegaaaDoorPlain
import Derived.Test.YtenhgcgdhaegaaaDoorLaws3
import Derived.Laws.BitsLemmas
set_option linter.unusedVariables false
set_option linter.unusedSimpArgs false
namespace Go
theorem i64_and65535' (n : Int) : bits .and .i64 n 65535 = n % 65536 := by
  have h127 : (BitVec.ofInt 64 65535).toNat = 2 ^ 16 - 1 := by decide
  have key : (BitVec.ofInt 64 n &&& BitVec.ofInt 64 65535).toNat = (n % ((2 ^ 64 : Nat) : Int)).toNat % 2 ^ 16 := by
    rw [BitVec.toNat_and, BitVec.toNat_ofInt, h127, Nat.and_two_pow_sub_one_eq_mod]
  show IntKind.i64.wrap ((BitVec.ofInt 64 n &&& BitVec.ofInt 64 65535).toNat : Nat) = n % 65536
  rw [key, IntKind.wrap_i64]
  omega
end Go
namespace Go.Proofs.Sb
open Go.RowKit _root_.Sb
theorem and_ex (i : Int) : ∃ k : Nat, k < 65536 ∧ bits .and .i64 i 65535 = (k : Int) := ⟨(i % 65536).toNat, by omega, by rw [i64_and65535']; omega⟩
/-- b[:k] of a part of a number -/
theorem run_headm (A : Option Addr) (n c k : Nat) (hn : 0 < n) (hc : n ≤ c) (w : World) :
    (Instr.slice 22 (.slice A n c) none (some (.int .i64 ((k : Int) % (n : Int)))) none).run Tryd.prog w = .ok (.slice A (k % n) c) w := by
  have h := run_head A n c (k % n) .i64 (by have := Nat.mod_lt k hn; omega) w
  rw [Int.natCast_emod] at h
  exact h
end Go.Proofs.Sb
