/- signalboxref04.Get: what it does. Conditions: lengths up to 2^47. (written by gen_ref4get.py) -/
import Derived.Test.YtpgcadicamnpkaaDoorOptub
import Derived.Test.YtpgcadicamnpkaaDoorOptuc
import Derived.Test.YtpgcadicamnpkaaDoorOptud
import Derived.Test.YtpgcadicamnpkaaDoorOptue
set_option linter.unusedVariables false
set_option linter.unusedSimpArgs false
namespace Go.Proofs.Sb
open Go.RowKit _root_.Sb

theorem rget4_any : ∀ n : Nat, Get4 n := by
  intro n
  induction n with
  | zero =>
    intro S A m c a bs w deep hs hm ha hdn _ r hr
    exact rget4_deep hs hm ha (by omega) r hr
  | succ n ih =>
    intro S A m c a bs w deep hs hm ha hdn hd1 r hr
    have hdn2 : deep + (n : Int) = 20 := by omega
    cases hg : getN 2 (bs.drop a) with
    | error e => exact rget4_short hg hs hm ha hdn2 hd1 r hr
    | ok p =>
      obtain ⟨id, rs⟩ := p
      by_cases hkn : kn id = -2
      · exact rget4_bad hg hkn hs hm ha hdn2 hd1 r hr
      by_cases hi0 : id = 0
      · subst hi0; exact rget4_0 hg hs hm ha hdn2 hd1 r hr
      by_cases hk0 : 0 ≤ kn id
      · exact rget4_else ih hg hk0 hi0 hs hm ha hdn2 hd1 r hr
      have hkr := kn_range id
      rcases kn_many (by omega : kn id = -1) with h | h <;> subst h
      · exact rget4_48 ih hg hs hm ha hdn2 hd1 r hr
      · exact rget4_49 ih hg hs hm ha hdn2 hd1 r hr

end Go.Proofs.Sb
