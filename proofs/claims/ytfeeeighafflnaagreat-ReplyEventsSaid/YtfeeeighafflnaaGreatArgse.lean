/- Arguments that are addresses and small numbers, opened; a slice of bytes within the form's reach. No conditions. -/
import Derived.Test.YtfeeeighafflnaaGreatArgsd
import Derived.SizedLaws
set_option linter.unusedVariables false
set_option linter.unusedSimpArgs false
namespace Go.Proofs.Sb
open Go.RowKit _root_.Sb
open Go.ChangeShapes Go.WideShapes Go.ChangeAt
set_option maxRecDepth 100000

section
variable {H : Type} {enc : TypeId × Value → H} {W : World} {r : Reach} {b0 : Nat} {v : Value} {d : DataW H} {p : List MemPlace}
theorem inet_of (hval : Value.okWide Tryz.prog W r b0 34 v) (h : DataW.Trod enc Tryz.prog W 0 (fun _ => true) true 34 v d p) :
    ∃ A n c ad, ∃ port : Nat, v = .agg #[.slice A n c, .int .u32 (port : Int)] ∧ Sl (fun _ => True) W A n c ad ∧ port < 4294967296 := by
  obtain ⟨c0, c1, y0, y1, m, rfl, rfl, rfl, hy0, hy1⟩ := Joins.open_agg2 Tryz.underlying34 (by kernel_rfl) (by kernel_rfl) hval h
  obtain ⟨k, e1, _, hw⟩ := DataW.trod_int Tryz.underlying22 hy1
  simp at e1
  subst e1
  obtain ⟨A, n, c, bs, rfl, hs⟩ := sl_of_trod hy0
  have hb : 0 ≤ k ∧ k < 4294967296 := by
    simp [Lit.wf, IntKind.min, IntKind.max, IntKind.signed, IntKind.bits] at hw
    omega
  obtain ⟨q, rfl⟩ := Int.eq_ofNat_of_zero_le hb.1
  exact ⟨A, n, c, bs, q, rfl, hs, by omega⟩
theorem u16_of (hval : Value.okWide Tryz.prog W r b0 23 v) (h : DataW.Trod enc Tryz.prog W 0 (fun _ => true) true 23 v d p) :
    ∃ k : Nat, v = .int .u16 (k : Int) ∧ k < 65536 := by
  obtain ⟨n, rfl, hw⟩ := int_of Tryz.underlying23 hval h
  have hb : 0 ≤ n ∧ n < 65536 := by
    simp [Lit.wf, IntKind.min, IntKind.max, IntKind.signed, IntKind.bits] at hw
    omega
  obtain ⟨q, rfl⟩ := Int.eq_ofNat_of_zero_le hb.1
  exact ⟨q, rfl, by omega⟩
theorem u8_of (hval : Value.okWide Tryz.prog W r b0 5 v) (h : DataW.Trod enc Tryz.prog W 0 (fun _ => true) true 5 v d p) :
    ∃ k : Nat, v = .int .u8 (k : Int) ∧ k < 256 := by
  obtain ⟨n, rfl, hw⟩ := int_of Tryz.underlying5 hval h
  have hb : 0 ≤ n ∧ n < 256 := by
    simp [Lit.wf, IntKind.min, IntKind.max, IntKind.signed, IntKind.bits] at hw
    omega
  obtain ⟨q, rfl⟩ := Int.eq_ofNat_of_zero_le hb.1
  exact ⟨q, rfl, by omega⟩
/-- a slice of bytes that is read lies within the form's reach -/
theorem reach_bytes {ts : List TypeId} {ds : List (DataW H)} (hsz : (DataW.weightsEach Tryz.prog ts ds).all (· ≤ reachBytes) = true) {j : Nat} (ht : ts[j]? = some 25) (hd : ds[j]? = some d) {A : Option Addr} {n c : Nat}
    (h : DataW.Trod enc Tryz.prog W 0 (fun _ => true) true 25 (.slice A n c) d p) : c ≤ 140737488351232 := by
  obtain ⟨fuel, hf⟩ := h
  rcases Go.Deep.open_slice Tryz.underlying25 hf with ⟨h1, _⟩ | ⟨a, len, cap, m, n2, D, Pl, h1, hb, hl, hm, hmm, hx, _⟩
  · have h1 : [Value.slice A n c] = [Value.slice none 0 0] := h1
    injection h1 with h1
    injection h1 with _ _ h1
    omega
  · have h1 : [Value.slice A n c] = [Value.slice (some a) len cap] := h1
    injection h1 with h1
    injection h1 with _ _ h1
    simp only [Prod.mk.injEq] at hx
    have := sized_slice (e := 5) hsz ht (by rw [hd, hx.1]) Tryz.underlying25
    have hb1 : Tryz.prog.bytesOf 5 = 1 := by kernel_rfl
    rw [hb1] at this
    simp only [List.length_map, List.length_range, reachBytes] at this
    simp at hmm
    omega
end
end Go.Proofs.Sb
