/- Walks over prims.length, Inet, GetInet, GetConsistency. Conditions: lengths up to 2^47. -/
import Derived.Test.YtdgmkmadlnmhbaaPrims
import Derived.Test.YtdgmkmadlnmhbaaReg
import Derived.Test.YtdgmkmadlnmhbaaConcat
set_option linter.unusedVariables false
set_option linter.unusedSimpArgs false
namespace Go.Proofs.Sb
open Go.RowKit _root_.Sb

theorem getCons_any {S : Nat → Prop} {A : Option Addr} {m c : Nat} {bs : B} {w : World} (hs : Sl S w A m c bs) (r : Res Nat) (hr : getCons bs = r) :
    Calls Try.prog 74 #[.slice A m c] w fun e w' => ∃ A2 m2 c2, e = .returned (.tuple #[.int .u16 (rval 0 r : Nat), .slice A2 m2 c2, .int .i64 (rerr r)]) ∧ Sl S w' A2 m2 c2 (rrest r) ∧ Below w.heap.size w w' := by
  subst hr
  unfold getCons
  cases h : getN 2 bs with
  | error e =>
    obtain rfl := getN_err h
    have HG := Lib.hid h; clear h
    go_enter Try.func74, Try.ntmps74
    go_wp2_with fail
    refine (get_any (n := 2) hs (by omega) (by omega) _ HG.out).mono ?_
    rintro e w1 ⟨A1, m1, c1, rfl, hsl, hb⟩
    go_wp2_with fail
    go_ret3
    exact ⟨_, _, _, rfl, Sl.nil, hb⟩
  | ok p =>
    obtain ⟨x, r1⟩ := p
    have hx := (getN_ok h).2.2.2
    simp only [Nat.reducePow] at hx
    have HG := Lib.hid h; clear h
    by_cases h10 : x > 10
    · simp only [h10, if_true]
      have h10' : 10 < x := h10
      clear h10
      go_enter Try.func74, Try.ntmps74
      go_wp2_with fail
      refine (get_any (n := 2) hs (by omega) (by omega) _ HG.out).mono ?_
      rintro e w1 ⟨A1, m1, c1, rfl, hsl, hb⟩
      go_wp2_with fail
      go_ret3
      exact ⟨_, _, _, rfl, Sl.nil, hb⟩
    · simp only [h10, if_false]
      have h10' : x ≤ 10 := by omega
      clear h10
      go_enter Try.func74, Try.ntmps74
      go_wp2_with fail
      refine (get_any (n := 2) hs (by omega) (by omega) _ HG.out).mono ?_
      rintro e w1 ⟨A1, m1, c1, rfl, hsl, hb⟩
      go_wp2_with fail
      go_ret3
      exact ⟨_, _, _, rfl, hsl, hb⟩

end Go.Proofs.Sb
