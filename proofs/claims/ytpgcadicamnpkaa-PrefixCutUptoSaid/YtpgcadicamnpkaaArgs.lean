/- Arguments, opened: a string, a slice of bytes, as the walks want them. No conditions. -/
import Derived.Test.YtpgcadicamnpkaaBase
import Derived.ProofKit
import Derived.OpenShut
import Derived.Lib.SmallJoins
import Derived.ShutString
import Derived.ChangeOld
set_option linter.unusedVariables false
set_option linter.unusedSimpArgs false
namespace Go.Proofs.Sb
open Go.RowKit _root_.Sb
open Go.ChangeShapes Go.WideShapes Go.ChangeAt
open Go.ChangeMaps (open_string shut_string)

theorem Try.own : ownKnob Try.prog.godebug = none := by kernel_rfl
theorem Try.laidOut : laidOutB Try.prog = true := by kernel_rfl

set_option maxRecDepth 100000 in
/-- a slice of bytes that came in reads as bytes -/
theorem sl_of_trod {H : Type} {enc : TypeId × Value → H} {W : World} {fuel : Nat} {v : Value} {x : DataW H × List MemPlace} (hf : DataW.trod enc Try.prog W 0 (fun _ => true) true fuel 22 [v] = some x) :
    ∃ A n c bs, v = .slice A n c ∧ Sl (fun _ => True) W A n c bs := by
  rcases open_ints Try.underlying22 Try.underlying5 (by kernel_rfl) hf with ⟨hcs, _⟩ | ⟨x, len0, cap0, zs, hcs, _, hl, hm, hz, _, hcell, hwz⟩
  · simp at hcs
    subst hcs
    exact ⟨none, 0, 0, [], rfl, Sl.nil⟩
  · simp at hcs
    subst hcs
    have hz' : zs.length = cap0 := by simpa using hz
    refine ⟨some x, len0, cap0, (zs.take len0).map fun n => UInt8.ofNat n.toNat, rfl, ?_, hl, hm, fun hn => ?_⟩
    · simp; omega
    · have h0 : 0 < zs.length := by
        rcases Nat.eq_zero_or_pos zs.length with h | h
        · rw [List.eq_nil_of_length_eq_zero h] at hn; simp [bv] at hn
        · exact h
      have hc0 := hcell 0 h0
      obtain ⟨b, off, spot⟩ := x
      have hspot : spot = none := by simpa [Addr.add] using World.cell?_spot hc0
      subst hspot
      refine ⟨b, off, rfl, trivial, World.block_lt_of_cell? W ⟨b, off, none⟩ (by simpa [Addr.add] using hc0), fun j u hu => ?_⟩
      have hj : j < len0 := by
        have := (List.getElem?_eq_some_iff.1 hu).1
        simp [bv] at this
        omega
      have hjz : j < zs.length := by omega
      have hc := hcell j hjz
      rw [Addr.add_lit] at hc
      rw [hc]
      have hw := hwz zs[j] (List.getElem_mem hjz)
      have hb : 0 ≤ zs[j] ∧ zs[j] < 256 := by
        simp [Lit.wf, IntKind.min, IntKind.max, IntKind.signed, IntKind.bits] at hw
        omega
      have e : (bv ((zs.take len0).map fun n => UInt8.ofNat n.toNat))[j]? = some (.int .u8 zs[j]) := by
        simp [bv, hj, hjz]
        omega
      rw [e] at hu
      rw [← hu]
      simp [hjz]
set_option maxRecDepth 100000 in
theorem sl_of {H : Type} {enc : TypeId × Value → H} {W : World} {r : Reach} {b0 : Nat} {v : Value} {d : DataW H} {p : List MemPlace} (hval : Value.okWide Try.prog W r b0 22 v) (h : DataW.Trod enc Try.prog W 0 (fun _ => true) true 22 v d p) :
    ∃ A n c bs, v = .slice A n c ∧ Sl (fun _ => True) W A n c bs := by
  obtain ⟨a0, len0, cap0, rfl⟩ := okWide_slice Try.underlying22 hval
  obtain ⟨fuel, hf⟩ := h
  exact sl_of_trod hf
set_option maxRecDepth 100000 in
theorem val_of {H : Type} {enc : TypeId × Value → H} {W : World} {r : Reach} {b0 : Nat} {v : Value} {d : DataW H} {p : List MemPlace} (hval : Value.okWide Try.prog W r b0 29 v) (h : DataW.Trod enc Try.prog W 0 (fun _ => true) true 29 v d p) :
    ∃ A n c, ∃ x : Val, v = .agg #[.int .i64 x.kind, .slice A n c] ∧ Sl (fun _ => True) W A n c x.bytes := by
  obtain ⟨c0, c1, y0, y1, m, rfl, rfl, rfl, hy0, hy1⟩ := Joins.open_agg2 Try.underlying29 (by kernel_rfl) (by kernel_rfl) hval h
  obtain ⟨k, e0, rfl, _⟩ := DataW.trod_int Try.underlying3 hy0
  simp at e0
  subst e0
  obtain ⟨A, n, c, bs, rfl, hs⟩ := sl_of_trod hy1
  exact ⟨A, n, c, ⟨k, bs⟩, rfl, hs⟩
set_option maxRecDepth 100000 in
theorem int_of {H : Type} {enc : TypeId × Value → H} {W : World} {r : Reach} {b0 : Nat} {t : TypeId} {k : IntKind} (ht : Try.prog.underlying t = some (.int k)) {v : Value} {d : DataW H} {p : List MemPlace} (hval : Value.okWide Try.prog W r b0 t v) (h : DataW.Trod enc Try.prog W 0 (fun _ => true) true t v d p) :
    ∃ n, v = .int k n ∧ (Lit.int k n).wf = true := by
  obtain ⟨x, rfl, _, _, wx⟩ := open_int ht hval h
  exact ⟨x, rfl, wx⟩
set_option maxRecDepth 100000 in
theorem str_of_arg {H : Type} {enc : TypeId × Value → H} {W : World} {r : Reach} {b0 : Nat} {v : Value} {d : DataW H} {p : List MemPlace} (hval : Value.okWide Try.prog W r b0 9 v) (h : DataW.Trod enc Try.prog W 0 (fun _ => true) true 9 v d p) :
    ∃ s, v = .string (str s) ∧ s.length ≤ 9223372036854775807 := by
  obtain ⟨s, rfl, _, _, hs⟩ := open_string Try.underlying9 hval h
  obtain ⟨bs, rfl⟩ := str_ex s
  rw [str_size] at hs
  unfold maxLen at hs
  exact ⟨bs, rfl, by omega⟩
theorem lt_of {H : Type} {enc : TypeId × Value → H} {W : World} {t : TypeId} {v : Value} {d : DataW H} {p : List MemPlace} (h : DataW.Trod enc Try.prog W 0 (fun _ => true) true t v d p) : ∀ x ∈ p, x.block < W.heap.size := by
  obtain ⟨m, hm⟩ := h; exact DataW.trod_lt m _ _ _ hm
end Go.Proofs.Sb
