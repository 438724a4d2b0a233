/- Plain mathematics of types of values (layer 4): types within one another; no program in sight. No conditions. -/
import Derived.Test.YtpgcadicamnpkaaDoorPlanq
import Derived.Test.YtpgcadicamnpkaaDoorPlant
import Derived.KernelRfl
set_option linter.unusedVariables false
set_option linter.unusedSimpArgs false
namespace Sb

def nestI (kb : Nat) : Nat := if kb = 0 then 32 else 49
def nestH (kb : Nat) : B := if kb = 0 then [0, 32] else [0, 49, 0, 1]
def nestO (kb : Nat) : Nat → Opt
  | 0 => ⟨9, [], [], [], []⟩
  | i + 1 => o1 (nestI kb) (nestO kb i)
def nestB (kb : Nat) : Nat → B
  | 0 => [0, 9]
  | i + 1 => nestH kb ++ nestB kb i
theorem nest_depth (kb : Nat) : ∀ i, depthD (i + 1) (nestO kb i) = i + 1
  | 0 => rfl
  | i + 1 => by show depthD (i + 1 + 1) (o1 (nestI kb) (nestO kb i)) = _; rw [depth_o1, nest_depth kb i]
theorem nest_nD (kb : Nat) : ∀ i, nD (i + 1) (nestO kb i) = i + 1
  | 0 => rfl
  | i + 1 => by
    show 1 + ([nestO kb i].map (nD (i + 1))).sum = _
    simp [nest_nD kb i]
    omega
theorem nest_own (kb : Nat) (a : Opt) : ownO (o1 (nestI kb) a) = true := by
  unfold nestI
  split
  · rfl
  · rfl
theorem nest_may (kb : Nat) : ∀ i, mayD (i + 1) (nestO kb i) = true
  | 0 => rfl
  | i + 1 => by show mayD (i + 1 + 1) (o1 (nestI kb) (nestO kb i)) = _; rw [may_o1 (nest_own kb _), nest_may kb i]
theorem nest_put (kb : Nat) : ∀ i, putD (i + 1) (nestO kb i) = .ok (nestB kb i)
  | 0 => (by kernel_rfl : putD 1 ⟨9, [], [], [], []⟩ = .ok [0, 9])
  | i + 1 => by
    show putD (i + 1 + 1) (o1 (nestI kb) (nestO kb i)) = .ok (nestH kb ++ nestB kb i)
    have ih := nest_put kb i
    have hk : kidsO (o1 (nestI kb) (nestO kb i)) = [([], nestO kb i)] := by unfold kidsO nestI o1; by_cases h : kb = 0 <;> simp [h]
    have h1 : kidW (putD (i + 1)) (nestI kb) ([], nestO kb i) = .ok (nestB kb i) := by
      unfold kidW bothW nameW nestI
      rw [ih]
      by_cases h : kb = 0 <;> simp [h]
    rw [putD, nest_own, hk]
    have h2 : putsM (kidW (putD (i + 1)) (o1 (nestI kb) (nestO kb i)).id) [([], nestO kb i)] = .ok (nestB kb i ++ []) := by
      simp only [putsM]
      show (match kidW (putD (i + 1)) (nestI kb) ([], nestO kb i) with | .error e => (.error e : Wr) | .ok b => .ok (b ++ [])) = _
      rw [h1]
    rw [h2]
    unfold headW nestI nestH o1 cntW
    by_cases h : kb = 0
    · simp [h]; rfl
    · simp [h]; rfl
theorem nest_id (kb i : Nat) : (nestO kb i).id < 65536 := by
  cases i with
  | zero => exact (by decide : (9 : Nat) < 65536)
  | succ i => show nestI kb < 65536; unfold nestI; split <;> decide
theorem nest_space (kb i : Nat) : (nestO kb i).space = [] := by cases i <;> rfl
theorem nest_name (kb i : Nat) : (nestO kb i).name = [] := by cases i <;> rfl
theorem nestB_len (kb : Nat) : ∀ i, (nestB kb i).length ≤ 2 + 4 * i
  | 0 => Nat.le_refl _
  | i + 1 => by
    have := nestB_len kb i
    simp only [nestB, List.length_append]
    have h : (nestH kb).length ≤ 4 := by unfold nestH; split <;> decide
    omega
theorem nest_deep (kb : Nat) : ∀ n i, n ≤ i → getO n (nestB kb i) = .error 13
  | 0, _, _ => rfl
  | n + 1, 0, h => absurd h (by omega)
  | n + 1, i + 1, h => by
    have ih := nest_deep kb n i (by omega)
    have hk : ∀ id : Nat, id ≠ 48 → kidR (getO n) id (nestB kb i) = .error 13 := fun id hid => by
      unfold kidR bothR nameR
      rw [if_neg hid]
      simp only
      rw [ih]
    have one : ∀ id : Nat, id ≠ 48 → getsM (kidR (getO n) id) 1 (nestB kb i) = .error 13 := fun id hid => by
      simp only [getsM]
      rw [hk id hid]
    have e0 : ∀ (x : Nat) (r : B), x < 65536 → getN 2 (enc 2 x ++ r) = .ok (x, r) := fun x r hx => getN_back hx
    unfold getO
    by_cases h0 : kb = 0
    · subst h0
      have e1 : getN 2 (nestB 0 (i + 1)) = .ok (32, nestB 0 i) := e0 32 (nestB 0 i) (by decide)
      rw [e1]
      simp only
      rw [if_neg (by decide)]
      have e2 : headR 32 (nestB 0 i) = .ok (([], []), nestB 0 i) := rfl
      rw [e2]
      simp only
      have e3 : cntR 32 (nestB 0 i) = .ok (1, nestB 0 i) := rfl
      rw [e3]
      simp only
      rw [one 32 (by decide)]
    · have e1 : getN 2 (nestB kb (i + 1)) = .ok (49, enc 2 1 ++ nestB kb i) := by
        have h1 := e0 49 (enc 2 1 ++ nestB kb i) (by decide)
        have h2 : nestB kb (i + 1) = enc 2 49 ++ (enc 2 1 ++ nestB kb i) := by
          show nestH kb ++ nestB kb i = _
          unfold nestH
          rw [if_neg h0, ← List.append_assoc]
          rfl
        rw [h2]
        exact h1
      rw [e1]
      simp only
      rw [if_neg (by decide)]
      have e2 : headR 49 (enc 2 1 ++ nestB kb i) = .ok (([], []), enc 2 1 ++ nestB kb i) := rfl
      rw [e2]
      simp only
      have e3 : cntR 49 (enc 2 1 ++ nestB kb i) = .ok (1, nestB kb i) := by
        unfold cntR
        rw [if_pos (by decide)]
        exact e0 1 (nestB kb i) (by decide)
      rw [e3]
      simp only
      rw [one 49 (by decide)]
theorem nest_put' (kb i : Nat) : putW (i + 1) (nestO kb i) = if i < 20 then .ok (nestB kb i) else .error 13 := by
  unfold putW
  rw [nest_depth, nest_put]
  by_cases h : i < 20
  · rw [if_neg (by omega), if_pos h]
  · rw [if_pos (by omega), if_neg h]
theorem nest_text (kb i : Nat) : textW (i + 1) (nestO kb i) = if i < 20 then .ok (tellD (i + 1) (nestO kb i)) else .error 13 := by
  unfold textW
  rw [nest_depth, nest_may]
  by_cases h : i < 20
  · rw [if_neg (by omega), if_pos h, if_neg (by decide)]
  · rw [if_pos (by omega), if_neg h]
theorem nest_get (kb i : Nat) : getO 20 (nestB kb i) = if i < 20 then .ok (normD (i + 1) (nestO kb i), []) else .error 13 := by
  by_cases h : i < 20
  · rw [if_pos h]
    have h1 := nest_put' kb i
    rw [if_pos h] at h1
    have h2 := (put_got (m := []) h1).1
    rw [List.append_nil] at h2
    exact h2
  · rw [if_neg h]
    exact nest_deep kb 20 i (by omega)
end Sb
