/- Arguments that are addresses and small numbers, opened; a slice of bytes within the form's reach. No conditions. -/
import Derived.Test.YtenhgcgdhaegaaaDoorArgsd
import Derived.SizedLaws
set_option linter.unusedVariables false
set_option linter.unusedSimpArgs false
namespace Go.Proofs.Sb
open Go.RowKit _root_.Sb
open Go.ChangeShapes Go.WideShapes Go.ChangeAt
set_option maxRecDepth 100000

section
variable {H : Type} {enc : TypeId × Value → H} {W : World} {r : Reach} {b0 : Nat} {v : Value} {d : DataW H} {p : List MemPlace}
theorem u16_of (hval : Value.okWide Tryd.prog W r b0 51 v) (h : DataW.Trod enc Tryd.prog W 0 (fun _ => true) true 51 v d p) :
    ∃ k : Nat, v = .int .u16 (k : Int) ∧ k < 65536 := by
  obtain ⟨n, rfl, hw⟩ := int_of Tryd.underlying51 hval h
  have hb : 0 ≤ n ∧ n < 65536 := by
    simp [Lit.wf, IntKind.min, IntKind.max, IntKind.signed, IntKind.bits] at hw
    omega
  obtain ⟨q, rfl⟩ := Int.eq_ofNat_of_zero_le hb.1
  exact ⟨q, rfl, by omega⟩
theorem u8_of (hval : Value.okWide Tryd.prog W r b0 5 v) (h : DataW.Trod enc Tryd.prog W 0 (fun _ => true) true 5 v d p) :
    ∃ k : Nat, v = .int .u8 (k : Int) ∧ k < 256 := by
  obtain ⟨n, rfl, hw⟩ := int_of Tryd.underlying5 hval h
  have hb : 0 ≤ n ∧ n < 256 := by
    simp [Lit.wf, IntKind.min, IntKind.max, IntKind.signed, IntKind.bits] at hw
    omega
  obtain ⟨q, rfl⟩ := Int.eq_ofNat_of_zero_le hb.1
  exact ⟨q, rfl, by omega⟩
/-- a slice of bytes that is read lies within the form's reach -/
theorem reach_bytes {ts : List TypeId} {ds : List (DataW H)} (hsz : (DataW.weightsEach Tryd.prog ts ds).all (· ≤ reachBytes) = true) {j : Nat} (ht : ts[j]? = some 22) (hd : ds[j]? = some d) {A : Option Addr} {n c : Nat}
    (h : DataW.Trod enc Tryd.prog W 0 (fun _ => true) true 22 (.slice A n c) d p) : c ≤ 140737488351232 := by
  obtain ⟨fuel, hf⟩ := h
  rcases Go.Deep.open_slice Tryd.underlying22 hf with ⟨h1, _⟩ | ⟨a, len, cap, m, n2, D, Pl, h1, hb, hl, hm, hmm, hx, _⟩
  · have h1 : [Value.slice A n c] = [Value.slice none 0 0] := h1
    injection h1 with h1
    injection h1 with _ _ h1
    omega
  · have h1 : [Value.slice A n c] = [Value.slice (some a) len cap] := h1
    injection h1 with h1
    injection h1 with _ _ h1
    simp only [Prod.mk.injEq] at hx
    have := sized_slice (e := 5) hsz ht (by rw [hd, hx.1]) Tryd.underlying22
    have hb1 : Tryd.prog.bytesOf 5 = 1 := by kernel_rfl
    rw [hb1] at this
    simp only [List.length_map, List.length_range, reachBytes] at this
    simp at hmm
    omega
end
end Go.Proofs.Sb
