/- Plain mathematics of types of values (layer 4): how many levels do not matter once there are enough; no program in sight. No conditions. -/
import Derived.Test.YtenhgcgdhaegaaaDoorPlano
set_option linter.unusedVariables false
set_option linter.unusedSimpArgs false
namespace Sb

/-- has a type at most so many levels? -/
def fitD : Nat → Opt → Prop
  | 0, _ => False
  | d + 1, o => ∀ k ∈ o.kids, fitD d k
theorem putsM_each {α : Type} {f : α → Wr} : ∀ {l : List α} {r : B}, putsM f l = .ok r → ∀ x ∈ l, ∃ b, f x = .ok b
  | y :: l, r, h, x, hx => by
    simp only [putsM] at h
    cases h1 : f y with
    | error e => rw [h1] at h; cases h
    | ok b =>
      rw [h1] at h
      simp only at h
      cases h2 : putsM f l with
      | error e => rw [h2] at h; cases h
      | ok r2 =>
        rcases List.mem_cons.1 hx with rfl | hx
        · exact ⟨b, h1⟩
        · exact putsM_each h2 x hx
theorem putsM_congr {α : Type} {f g : α → Wr} : ∀ {l : List α}, (∀ x ∈ l, f x = g x) → putsM f l = putsM g l
  | [], _ => rfl
  | y :: l, h => by
    simp only [putsM]
    rw [h y (by simp), putsM_congr (l := l) fun x hx => h x (by simp [hx])]
theorem kidW_ok {f : Opt → Wr} {id : Nat} {p : B × Opt} {b : B} (h : kidW f id p = .ok b) : ∃ c, f p.2 = .ok c := by
  unfold kidW bothW at h
  cases h1 : nameW id p.1 with
  | error e => rw [h1] at h; cases h
  | ok s =>
    rw [h1] at h
    simp only at h
    cases h2 : f p.2 with
    | error e => rw [h2] at h; cases h
    | ok t => exact ⟨t, rfl⟩
theorem fit_put : ∀ {d : Nat} {o : Opt} {b : B}, putD d o = .ok b → fitD d o
  | 0, _, _, h => by cases h
  | d + 1, o, b, h => by
    obtain ⟨n, hn, ho, x, r, _, _, h3, _⟩ := putD_parts h
    injection hn with hn
    subst hn
    intro k hk
    rw [← kidsO_snd ho] at hk
    obtain ⟨p, hp, rfl⟩ := List.mem_map.1 hk
    obtain ⟨c, hc⟩ := putsM_each h3 p hp
    obtain ⟨e, he⟩ := kidW_ok hc
    exact fit_put he
theorem fit_le : ∀ {d e : Nat} {o : Opt}, d ≤ e → fitD d o → fitD e o
  | 0, _, _, _, h => h.elim
  | d + 1, 0, _, hd, _ => absurd hd (by omega)
  | d + 1, e + 1, o, hd, h => fun k hk => fit_le (by omega) (h k hk)
theorem fit_depth : ∀ {d e : Nat} {o : Opt}, fitD d o → fitD e o → depthD d o = depthD e o
  | 0, _, _, h, _ => h.elim
  | _ + 1, 0, _, _, h => h.elim
  | d + 1, e + 1, o, h, h2 => by
    simp only [depthD]
    rw [List.map_congr_left fun k hk => fit_depth (h k hk) (h2 k hk)]
theorem fit_nD : ∀ {d e : Nat} {o : Opt}, fitD d o → fitD e o → nD d o = nD e o
  | 0, _, _, h, _ => h.elim
  | _ + 1, 0, _, _, h => h.elim
  | d + 1, e + 1, o, h, h2 => by
    simp only [nD]
    rw [List.map_congr_left fun k hk => fit_nD (h k hk) (h2 k hk)]
theorem fit_putD : ∀ {d e : Nat} {o : Opt}, fitD d o → fitD e o → putD d o = putD e o
  | 0, _, _, h, _ => h.elim
  | _ + 1, 0, _, _, h => h.elim
  | d + 1, e + 1, o, h, h2 => by
    simp only [putD]
    rw [putsM_congr (f := kidW (putD d) o.id) (g := kidW (putD e) o.id) fun p hp => by
      unfold kidW
      rw [fit_putD (h p.2 (kidsO_mem hp)) (h2 p.2 (kidsO_mem hp))]]
/-- what is got is put as it was, with a level more -/
theorem got_put {b : B} {o : Opt} {r : B} (h : getO 20 b = .ok (o, r)) : ∃ y, putW 21 o = .ok y ∧ b = y ++ r ∧ nD 21 o ≤ b.length := by
  obtain ⟨y, h1, h2⟩ := getO_fore 20 _ _ _ h
  have hf := fit_put h1
  have hf' : fitD 21 o := fit_le (by omega) hf
  refine ⟨y, ?_, h2.symm, ?_⟩
  · unfold putW
    have := depthD_le 20 o
    rw [← fit_depth hf hf', if_neg (by omega), ← fit_putD hf hf', h1]
  · rw [← fit_nD hf hf']
    have := getO_n h
    omega
theorem fit_norm : ∀ {d : Nat} {o : Opt}, fitD d o → fitD d (normD d o)
  | 0, _, h => h.elim
  | d + 1, o, h => by
    intro k hk
    simp only [normD, mkO, List.map_map, List.mem_map, Function.comp_def] at hk
    obtain ⟨p, hp, rfl⟩ := hk
    exact fit_norm (h p.2 (kidsO_mem hp))
theorem norm_nD : ∀ {d : Nat} {o : Opt} {b : B}, putD d o = .ok b → nD d (normD d o) = nD d o
  | 0, _, _, h => by cases h
  | d + 1, o, b, h => by
    obtain ⟨n, hn, ho, x, r, _, _, h3, _⟩ := putD_parts h
    injection hn with hn
    subst hn
    simp only [normD, nD, mkO, List.map_map, Function.comp_def]
    rw [← kidsO_snd ho, List.map_map]
    congr 2
    apply List.map_congr_left
    intro p hp
    obtain ⟨c, hc⟩ := putsM_each h3 p hp
    obtain ⟨e, he⟩ := kidW_ok hc
    exact norm_nD he
/-- what is put is got, and put again as it was -/
theorem put_got {d : Nat} {o : Opt} {b m : B} (h : putW d o = .ok b) : getO 20 (b ++ m) = .ok (normD d o, m) ∧ putW 21 (normD d o) = .ok b ∧ nD 21 (normD d o) = nD d o ∧ (normD d o).id = o.id ∧ (normD d o).kids.length = o.kids.length := by
  unfold putW at h
  split at h
  · cases h
  · have hd : depthD d o ≤ 20 := by omega
    have h1 := getO_back 20 d o b m hd h
    obtain ⟨y, h2, h3, _⟩ := got_put h1
    have hy : b = y := List.append_cancel_right h3
    subst hy
    have hf : fitD 20 (normD d o) := fit_put (norm_put 20 d o b hd h)
    have hn := norm_nD h
    refine ⟨h1, h2, ?_, normD_id h⟩
    rw [← hn]
    exact fit_nD (fit_le (by omega) hf) (fit_norm (fit_put h))
end Sb
