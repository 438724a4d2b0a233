/- Plain mathematics of types of values (layer 4): the text of a type that is made of others; no program in sight. No conditions. -/
import Derived.Test.YtpgcadicamnpkaaDoorPlanp
set_option linter.unusedVariables false
set_option linter.unusedSimpArgs false
namespace Sb

def o1 (id : Nat) (a : Opt) : Opt := ⟨id, [], [], [], [a]⟩
def o2 (id : Nat) (a b : Opt) : Opt := ⟨id, [], [], [], [a, b]⟩
theorem depth_o1 (D id : Nat) (a : Opt) : depthD (D + 1) (o1 id a) = depthD D a + 1 := by simp [depthD, o1, maxL]
theorem depth_o2 (D id : Nat) (a b : Opt) : depthD (D + 1) (o2 id a b) = max (depthD D a) (depthD D b) + 1 := by simp [depthD, o2, maxL]
theorem may_o1 {D id : Nat} {a : Opt} (h : ownO (o1 id a) = true) : mayD (D + 1) (o1 id a) = mayD D a := by
  show (ownO (o1 id a) && [a].all (mayD D)) = mayD D a
  rw [h]
  simp
theorem may_o2 {D id : Nat} {a b : Opt} (h : ownO (o2 id a b) = true) : mayD (D + 1) (o2 id a b) = (mayD D a && mayD D b) := by
  show (ownO (o2 id a b) && [a, b].all (mayD D)) = (mayD D a && mayD D b)
  rw [h]
  simp
theorem own_32 (a : Opt) : ownO (o1 32 a) = true := rfl
theorem own_34 (a : Opt) : ownO (o1 34 a) = true := rfl
theorem own_33 (a b : Opt) : ownO (o2 33 a b) = true := rfl
theorem own_49 (a b : Opt) : ownO (o2 49 a b) = true := rfl
theorem tell_32 (D : Nat) (a : Opt) : tellD (D + 1) (o1 32 a) = [108, 105, 115, 116, 60] ++ (tellD D a ++ [62]) := by simp [tellD, o1, joinB, wList]
theorem tell_34 (D : Nat) (a : Opt) : tellD (D + 1) (o1 34 a) = [115, 101, 116, 60] ++ (tellD D a ++ [62]) := by simp [tellD, o1, joinB, wSet]
theorem tell_33 (D : Nat) (a b : Opt) : tellD (D + 1) (o2 33 a b) = [109, 97, 112, 60] ++ (tellD D a ++ ([44, 32] ++ (tellD D b ++ [62]))) := by simp [tellD, o2, joinB, wMap, sepB]
theorem tell_49 (D : Nat) (a b : Opt) : tellD (D + 1) (o2 49 a b) = [116, 117, 112, 108, 101, 60] ++ (tellD D a ++ ([44, 32] ++ (tellD D b ++ [62]))) := by simp [tellD, o2, joinB, wTuple, sepB]
inductive OT (ra rb rl ru rm rp : Wr) : Prop
  | bad : (werr ra ≠ 0 ∨ werr rb ≠ 0) → werr rm ≠ 0 → werr rp ≠ 0 → OT ra rb rl ru rm rp
  | deep : ra = .ok (wval ra) → rb = .ok (wval rb) → (werr rl = 13 ∨ werr ru = 13) → werr rm = 13 → werr rp = 13 → OT ra rb rl ru rm rp
  | good (s t : B) : ra = .ok s → rb = .ok t → rl = .ok ([108, 105, 115, 116, 60] ++ (s ++ [62])) → ru = .ok ([115, 101, 116, 60] ++ (t ++ [62])) → rm = .ok ([109, 97, 112, 60] ++ (s ++ ([44, 32] ++ (t ++ [62])))) →
      rp = .ok ([116, 117, 112, 108, 101, 60] ++ (s ++ ([44, 32] ++ (t ++ [62])))) → OT ra rb rl ru rm rp
theorem otexts_law (D : Nat) (a b : Opt) : OT (textW D a) (textW D b) (textW (D + 1) (o1 32 a)) (textW (D + 1) (o1 34 b)) (textW (D + 1) (o2 33 a b)) (textW (D + 1) (o2 49 a b)) := by
  unfold textW
  rw [depth_o1, depth_o1, depth_o2, depth_o2, may_o1 (own_32 a), may_o1 (own_34 b), may_o2 (own_33 a b), may_o2 (own_49 a b), tell_32, tell_34, tell_33, tell_49]
  by_cases ha : 20 < depthD D a
  · have h3 : 20 < max (depthD D a) (depthD D b) + 1 := by omega
    refine .bad (.inl ?_) ?_ ?_
    · rw [if_pos ha]; decide
    · rw [if_pos h3]; decide
    · rw [if_pos h3]; decide
  by_cases hb : 20 < depthD D b
  · have h3 : 20 < max (depthD D a) (depthD D b) + 1 := by omega
    refine .bad (.inr ?_) ?_ ?_
    · rw [if_pos hb]; decide
    · rw [if_pos h3]; decide
    · rw [if_pos h3]; decide
  rw [if_neg ha, if_neg hb]
  by_cases hab : mayD D a = true ∧ mayD D b = true
  · obtain ⟨hma, hmb⟩ := hab
    have n1 : ¬ (mayD D a = false) := by rw [hma]; decide
    have n2 : ¬ (mayD D b = false) := by rw [hmb]; decide
    have n3 : ¬ ((mayD D a && mayD D b) = false) := by rw [hma, hmb]; decide
    rw [if_neg n1, if_neg n2]
    by_cases h3 : 20 < max (depthD D a) (depthD D b) + 1
    · refine .deep rfl rfl ?_ ?_ ?_
      · by_cases h4 : 20 < depthD D a + 1
        · left; rw [if_pos h4]; rfl
        · right; rw [if_pos (show 20 < depthD D b + 1 by omega)]; rfl
      · rw [if_pos h3]; rfl
      · rw [if_pos h3]; rfl
    · refine .good _ _ rfl rfl ?_ ?_ ?_ ?_
      · rw [if_neg (by omega), if_neg n1]
      · rw [if_neg (by omega), if_neg n2]
      · rw [if_neg h3, if_neg n3]
      · rw [if_neg h3, if_neg n3]
  · have h4 : (mayD D a && mayD D b) = false := by
      cases h1 : mayD D a <;> cases h2 : mayD D b <;> simp_all
    refine .bad ?_ ?_ ?_
    · cases h1 : mayD D a
      · left; rw [if_pos rfl]; decide
      · right
        cases h2 : mayD D b
        · rw [if_pos rfl]; decide
        · exact absurd ⟨h1, h2⟩ hab
    · rw [if_pos h4]; split <;> decide
    · rw [if_pos h4]; split <;> decide
end Sb
