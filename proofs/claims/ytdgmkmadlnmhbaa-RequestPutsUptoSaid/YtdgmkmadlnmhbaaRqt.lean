/- Walk over the closure has of request.reader's run. Conditions: lengths up to 2^47. (written by gen_rqrun.py) -/
import Derived.Test.YtdgmkmadlnmhbaaRqs
import Derived.Deep.DeepCutAuto
set_option linter.unusedVariables false
set_option linter.unusedSimpArgs false
namespace Sb
def okB : Wr → Bool | .ok _ => true | .error _ => false
end Sb
namespace Go.Proofs.Sb
open Go.RowKit _root_.Sb

theorem bit_and : ∀ (f : Fin 256) (k : Fin 7), (bits .and .u8 ((f : Nat) : Int) ((2 ^ (k : Nat) : Nat) : Int) != 0) = bitB f k := by decide +kernel
set_option maxRecDepth 100000 in
theorem has_any {S : Nat → Prop} {w : World} {X pr pf f k : Nat} {fl : Int} {s : Wr} (h : RdAt S w X s) (hpr : w.cell? ⟨pr, 0, none⟩ = some (.pointer (some ⟨X, 0, none⟩))) (hpf : w.cell? ⟨pf, 0, none⟩ = some (.int .u8 (f : Int))) (hf : f < 256) (hk : k < 7) (hfl : fl = ((2 ^ k : Nat) : Int)) :
    Calls Try.prog 75 #[.int .u8 fl, .pointer (some ⟨pr, 0, none⟩), .pointer (some ⟨pf, 0, none⟩)] w fun e w' => e = .returned (.bool (okB s && bitB f k)) ∧ w = w' := by
  have hb := bit_and ⟨f, hf⟩ ⟨k, hk⟩
  simp only at hb
  rw [← hfl] at hb
  clear hfl
  obtain ⟨v, hv⟩ : ∃ v, bits .and .u8 (f : Int) fl = v := ⟨_, rfl⟩
  rw [hv] at hb
  generalize bitB f k = bb at *
  obtain ⟨A, n, c, h0, h1, h2, h3, h4⟩ := h
  cases s with
  | error e =>
    have hne : e ≠ 0 := h4 e rfl
    have hne2 : (e == 0) = false := by simpa using hne
    simp only [werr_error] at h1
    clear h3 h4 h2
    go_enter Try.func75, Try.ntmps75
    go_wp2_with fail
    go_ret
    exact ⟨rfl, rfl⟩
  | ok cur =>
    simp only [werr_ok] at h1
    clear h3 h4 h2
    go_enter Try.func75, Try.ntmps75
    go_wp2_with fail
    go_ret
    exact ⟨by simp [okB, hb], rfl⟩
end Go.Proofs.Sb
