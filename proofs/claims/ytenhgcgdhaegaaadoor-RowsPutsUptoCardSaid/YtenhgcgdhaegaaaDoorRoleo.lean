/- Frames by roles for types of values. No conditions. (written by gen_role.py) -/
import Derived.Test.YtenhgcgdhaegaaaDoorRole
import Derived.Test.YtenhgcgdhaegaaaDoorOpts
set_option linter.unusedVariables false
set_option linter.unusedSimpArgs false
namespace Go.Proofs.Sb
open Go.RowKit _root_.Sb

theorem goesOpt {M d : Nat} (o : Opt) (v : List Value) : Goes fun S w => optD S w M d o v := ⟨fun h hs hk => h.keep hs hk, fun h hS => h.mono hS⟩
theorem goesOptR {M d : Nat} {A1 : Option Addr} {n1 c1 : Nat} {A2 : Option Addr} {n2 c2 : Nat} {o : Opt} : Goes fun S w => OptR S w M d A1 n1 c1 A2 n2 c2 o := ⟨fun h hs hk => h.keep hs hk, fun h hS => h.mono hS⟩
theorem OptR.step {M d : Nat} {A1 : Option Addr} {n1 c1 : Nat} {A2 : Option Addr} {n2 c2 : Nat} {o : Opt} {ρ : Nat → Nat} {r s : Nat} {w w' : World} (h : OptR (Rl ρ s) w M d A1 n1 c1 A2 n2 c2 o) (hf : Fr (Rl ρ r) w w') (t : Nat) (hd : s ≠ r := by decide) {N : Nat} (hN : w.heap.size ≤ N := by exact Nat.le_refl _) : OptR (Rl (xt ρ N t) s) w' M d A1 n1 c1 A2 n2 c2 o := goesOptR.step h hf hd t hN
theorem OptR.stepx {M d : Nat} {A1 : Option Addr} {n1 c1 : Nat} {A2 : Option Addr} {n2 c2 : Nat} {o : Opt} {ρ ρ' : Nat → Nat} {r s : Nat} {w w' : World} (h : OptR (Rl ρ s) w M d A1 n1 c1 A2 n2 c2 o) (hf : Fr (Rl ρ r) w w') {t N : Nat} (hx : ρ' = xt ρ N t) (hd : s ≠ r := by decide) (hN : w.heap.size ≤ N := by exact Nat.le_refl _) : OptR (Rl ρ' s) w' M d A1 n1 c1 A2 n2 c2 o := hx ▸ goesOptR.step h hf hd t hN
theorem OptR.stay {M d : Nat} {A1 : Option Addr} {n1 c1 : Nat} {A2 : Option Addr} {n2 c2 : Nat} {o : Opt} {ρ : Nat → Nat} {r s : Nat} {w w' : World} (h : OptR (Rl ρ s) w M d A1 n1 c1 A2 n2 c2 o) (hf : Fr (Rl ρ r) w w') (hd : s ≠ r := by decide) : OptR (Rl ρ s) w' M d A1 n1 c1 A2 n2 c2 o := goesOptR.stay h hf hd
theorem OptR.ext {M d : Nat} {A1 : Option Addr} {n1 c1 : Nat} {A2 : Option Addr} {n2 c2 : Nat} {o : Opt} {ρ : Nat → Nat} {s : Nat} {w : World} (h : OptR (Rl ρ s) w M d A1 n1 c1 A2 n2 c2 o) (t : Nat) {N : Nat} (hN : w.heap.size ≤ N := by exact Nat.le_refl _) : OptR (Rl (xt ρ N t) s) w M d A1 n1 c1 A2 n2 c2 o := goesOptR.ext h t hN
theorem OptR.new {M d : Nat} {A1 : Option Addr} {n1 c1 : Nat} {A2 : Option Addr} {n2 c2 : Nat} {o : Opt} {S : Nat → Prop} {w : World} (h : OptR S w M d A1 n1 c1 A2 n2 c2 o) (ρ : Nat → Nat) (t : Nat) {N : Nat} (hS : ∀ b, S b → N ≤ b) : OptR (Rl (xt ρ N t) t) w M d A1 n1 c1 A2 n2 c2 o := goesOptR.new h ρ t hS
theorem OptR.two {M d : Nat} {A1 : Option Addr} {n1 c1 : Nat} {A2 : Option Addr} {n2 c2 : Nat} {o : Opt} {ρ : Nat → Nat} {s : Nat} {w w' : World} (h : OptR (Rl ρ s) w M d A1 n1 c1 A2 n2 c2 o) (hb : Below w.heap.size w w') (t u : Nat) : OptR (Rl (xt (xt ρ w.heap.size t) (w.heap.size + 1) u) s) w' M d A1 n1 c1 A2 n2 c2 o := goesOptR.two h hb t u
theorem OptR.role0 {M d : Nat} {A1 : Option Addr} {n1 c1 : Nat} {A2 : Option Addr} {n2 c2 : Nat} {o : Opt} {S : Nat → Prop} {w : World} (h : OptR S w M d A1 n1 c1 A2 n2 c2 o) (t : Nat) : OptR (Rl (xt (fun _ => 0) w.heap.size t) 0) w M d A1 n1 c1 A2 n2 c2 o := goes0 goesOptR h t
end Go.Proofs.Sb
