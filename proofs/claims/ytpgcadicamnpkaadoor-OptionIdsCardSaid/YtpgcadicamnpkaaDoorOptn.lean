/- Walks over option.name, option.kids. Conditions: the table of names reads as it was laid. -/
import Derived.Test.YtpgcadicamnpkaaDoorOpts
set_option linter.unusedVariables false
set_option linter.unusedSimpArgs false
namespace Go.Proofs.Sb
open Go.RowKit _root_.Sb

/-- the table of the plain types' names reads as it was laid -/
def Pl (w : World) : Prop := ∀ i s, plainNames[i]? = some s → w.cell? ⟨0, i, none⟩ = some (.string (str s))
theorem Pl.pos {w : World} (h : Pl w) : 0 < w.heap.size := World.block_lt_of_cell? w ⟨0, 0, none⟩ (h 0 [] rfl)
theorem Pl.keep {w w' : World} (h : Pl w) (hk : w'.heap[0]? = w.heap[0]?) : Pl w' := fun i s hi => (World.cell?_of_block (a := ⟨0, i, none⟩) hk).trans (h i s hi)
theorem Pl.after {w w' : World} (h : Pl w) (hb : Below w.heap.size w w') : Pl w' := h.keep (hb.block 0 h.pos)
theorem Pl.grown {w w' : World} {row : Option Nat} (h : Pl w) (hg : w.grownBy w' row) (hr : row ≠ some 0) : Pl w' := h.keep (hg.block 0 h.pos fun e => hr e.symm)
theorem Pl.setCell {w : World} (h : Pl w) {p : Addr} (hp : p.block ≠ 0) (u : Value) : Pl (w.setCell p u) := h.keep (Below.heap_setCell w p u 0 fun e => hp e.symm)

set_option maxRecDepth 100000 in
theorem name_any {id : Nat} (hid : id < 65536) {w : World} (hw : Pl w) :
    Calls Tryd.prog 41 #[.int .u16 (id : Int)] w fun e w' => e = .returned (.string (str (nameB id))) ∧ Below w.heap.size w w' := by
  have HW := Lib.hid hw; clear hw
  by_cases h : id < 21
  · obtain ⟨s, hs⟩ : ∃ s, plainNames[id]? = some s := ⟨_, List.getElem?_eq_getElem (by simp [plainNames]; omega)⟩
    have hc := HW.out id s hs
    have hn : nameB id = s := by unfold nameB; rw [hs]; rfl
    rw [hn]
    clear hn hs
    go_enter Tryd.func41, Tryd.ntmps41
    go_wp2_with fail
    go_ret
    exact ⟨rfl, (by repeat (first | exact Below.refl _ _ | assumption | refine Below.drew ?_ | refine below_drewN ?_ _ | refine Below.alloc ?_ (by first | (simp; done) | omega | (simp; omega)) _ | refine Below.setCell ?_ (by first | (simp; done) | omega | (simp; omega)) _))⟩
  · have hn : nameB id = [] := by unfold nameB; rw [List.getElem?_eq_none (by simp [plainNames]; omega)]; rfl
    rw [hn]
    clear hn
    go_enter Tryd.func41, Tryd.ntmps41
    go_wp2_with fail
    go_ret
    exact ⟨rfl, (by repeat (first | exact Below.refl _ _ | assumption | refine Below.drew ?_ | refine below_drewN ?_ _ | refine Below.alloc ?_ (by first | (simp; done) | omega | (simp; omega)) _ | refine Below.setCell ?_ (by first | (simp; done) | omega | (simp; omega)) _))⟩
def knP (id : Nat) : Int := if kn id = -2 then 3 else kn id
set_option maxRecDepth 100000 in
theorem kids_any {id : Nat} (hid : id < 65536) {w : World} (hw : Pl w) :
    Calls Tryd.prog 44 #[.int .u16 (id : Int)] w fun e w' => e = .returned (.int .i64 (knP id)) ∧ Below w.heap.size w w' := by
  have HW := Lib.hid hw; clear hw
  by_cases h0 : id = 0
  · subst h0
    go_enter Tryd.func44, Tryd.ntmps44
    go_wp2_with fail
    go_ret
    exact ⟨rfl, (by repeat (first | exact Below.refl _ _ | assumption | refine Below.drew ?_ | refine below_drewN ?_ _ | refine Below.alloc ?_ (by first | (simp; done) | omega | (simp; omega)) _ | refine Below.setCell ?_ (by first | (simp; done) | omega | (simp; omega)) _))⟩
  · have walk : ∀ r : Int, (nameB id).isEmpty = (!isPlain id) → (isPlain id = true → r = 0) → (isPlain id = false → r = if id = 32 ∨ id = 34 then 1 else if id = 33 then 2 else if id = 48 ∨ id = 49 then -1 else 3) →
        Calls Tryd.prog 44 #[.int .u16 (id : Int)] w fun e w' => e = .returned (.int .i64 r) ∧ Below w.heap.size w w' := by
      intro r hne h1 h2
      cases hp : isPlain id with
      | true =>
        replace hne : List.isEmpty (nameB id) = false := by rw [hne, hp]; rfl
        have hor : (((id : Nat) : Int) == 0 || !List.isEmpty (nameB id)) = true := by rw [hne]; simp
        obtain rfl := h1 hp
        clear h1 h2 hp
        go_enter Tryd.func44, Tryd.ntmps44
        go_wp2_with fail
        refine (name_any hid (HW.out.after (by repeat (first | exact Below.refl _ _ | assumption | refine Below.drew ?_ | refine below_drewN ?_ _ | refine Below.alloc ?_ (by first | (simp; done) | omega | (simp; omega)) _ | refine Below.setCell ?_ (by first | (simp; done) | omega | (simp; omega)) _)))).mono ?_
        rintro e w1 ⟨rfl, hb1⟩
        go_wp2_with fail
        go_ret
        exact ⟨rfl, Below.trans (by repeat (first | exact Below.refl _ _ | assumption | refine Below.drew ?_ | refine below_drewN ?_ _ | refine Below.alloc ?_ (by first | (simp; done) | omega | (simp; omega)) _ | refine Below.setCell ?_ (by first | (simp; done) | omega | (simp; omega)) _)) (hb1.mono (by simp))⟩
      | false =>
        replace hne : List.isEmpty (nameB id) = true := by rw [hne, hp]; rfl
        have h2 := h2 hp
        clear h1 hp
        by_cases c1 : id = 32
        · subst c1
          obtain rfl := h2
          go_enter Tryd.func44, Tryd.ntmps44
          go_wp2_with fail
          refine (name_any hid (HW.out.after (by repeat (first | exact Below.refl _ _ | assumption | refine Below.drew ?_ | refine below_drewN ?_ _ | refine Below.alloc ?_ (by first | (simp; done) | omega | (simp; omega)) _ | refine Below.setCell ?_ (by first | (simp; done) | omega | (simp; omega)) _)))).mono ?_
          rintro e w1 ⟨rfl, hb1⟩
          go_wp2_with fail
          go_ret
          exact ⟨rfl, Below.trans (by repeat (first | exact Below.refl _ _ | assumption | refine Below.drew ?_ | refine below_drewN ?_ _ | refine Below.alloc ?_ (by first | (simp; done) | omega | (simp; omega)) _ | refine Below.setCell ?_ (by first | (simp; done) | omega | (simp; omega)) _)) (hb1.mono (by simp))⟩
        · by_cases c2 : id = 34
          · subst c2
            obtain rfl := h2
            go_enter Tryd.func44, Tryd.ntmps44
            go_wp2_with fail
            refine (name_any hid (HW.out.after (by repeat (first | exact Below.refl _ _ | assumption | refine Below.drew ?_ | refine below_drewN ?_ _ | refine Below.alloc ?_ (by first | (simp; done) | omega | (simp; omega)) _ | refine Below.setCell ?_ (by first | (simp; done) | omega | (simp; omega)) _)))).mono ?_
            rintro e w1 ⟨rfl, hb1⟩
            go_wp2_with fail
            go_ret
            exact ⟨rfl, Below.trans (by repeat (first | exact Below.refl _ _ | assumption | refine Below.drew ?_ | refine below_drewN ?_ _ | refine Below.alloc ?_ (by first | (simp; done) | omega | (simp; omega)) _ | refine Below.setCell ?_ (by first | (simp; done) | omega | (simp; omega)) _)) (hb1.mono (by simp))⟩
          · by_cases c3 : id = 33
            · subst c3
              obtain rfl := h2
              go_enter Tryd.func44, Tryd.ntmps44
              go_wp2_with fail
              refine (name_any hid (HW.out.after (by repeat (first | exact Below.refl _ _ | assumption | refine Below.drew ?_ | refine below_drewN ?_ _ | refine Below.alloc ?_ (by first | (simp; done) | omega | (simp; omega)) _ | refine Below.setCell ?_ (by first | (simp; done) | omega | (simp; omega)) _)))).mono ?_
              rintro e w1 ⟨rfl, hb1⟩
              go_wp2_with fail
              go_ret
              exact ⟨rfl, Below.trans (by repeat (first | exact Below.refl _ _ | assumption | refine Below.drew ?_ | refine below_drewN ?_ _ | refine Below.alloc ?_ (by first | (simp; done) | omega | (simp; omega)) _ | refine Below.setCell ?_ (by first | (simp; done) | omega | (simp; omega)) _)) (hb1.mono (by simp))⟩
            · by_cases c4 : id = 48
              · subst c4
                obtain rfl := h2
                go_enter Tryd.func44, Tryd.ntmps44
                go_wp2_with fail
                refine (name_any hid (HW.out.after (by repeat (first | exact Below.refl _ _ | assumption | refine Below.drew ?_ | refine below_drewN ?_ _ | refine Below.alloc ?_ (by first | (simp; done) | omega | (simp; omega)) _ | refine Below.setCell ?_ (by first | (simp; done) | omega | (simp; omega)) _)))).mono ?_
                rintro e w1 ⟨rfl, hb1⟩
                go_wp2_with fail
                go_ret
                exact ⟨rfl, Below.trans (by repeat (first | exact Below.refl _ _ | assumption | refine Below.drew ?_ | refine below_drewN ?_ _ | refine Below.alloc ?_ (by first | (simp; done) | omega | (simp; omega)) _ | refine Below.setCell ?_ (by first | (simp; done) | omega | (simp; omega)) _)) (hb1.mono (by simp))⟩
              · by_cases c5 : id = 49
                · subst c5
                  obtain rfl := h2
                  go_enter Tryd.func44, Tryd.ntmps44
                  go_wp2_with fail
                  refine (name_any hid (HW.out.after (by repeat (first | exact Below.refl _ _ | assumption | refine Below.drew ?_ | refine below_drewN ?_ _ | refine Below.alloc ?_ (by first | (simp; done) | omega | (simp; omega)) _ | refine Below.setCell ?_ (by first | (simp; done) | omega | (simp; omega)) _)))).mono ?_
                  rintro e w1 ⟨rfl, hb1⟩
                  go_wp2_with fail
                  go_ret
                  exact ⟨rfl, Below.trans (by repeat (first | exact Below.refl _ _ | assumption | refine Below.drew ?_ | refine below_drewN ?_ _ | refine Below.alloc ?_ (by first | (simp; done) | omega | (simp; omega)) _ | refine Below.setCell ?_ (by first | (simp; done) | omega | (simp; omega)) _)) (hb1.mono (by simp))⟩
                · rw [if_neg (by omega), if_neg c3, if_neg (by omega)] at h2
                  subst h2
                  have d1 : (((id : Nat) : Int) == 32 || ((id : Nat) : Int) == 34) = false := by simp; omega
                  have d2 : (((id : Nat) : Int) == 48 || ((id : Nat) : Int) == 49) = false := by simp; omega
                  go_enter Tryd.func44, Tryd.ntmps44
                  go_wp2_with fail
                  refine (name_any hid (HW.out.after (by repeat (first | exact Below.refl _ _ | assumption | refine Below.drew ?_ | refine below_drewN ?_ _ | refine Below.alloc ?_ (by first | (simp; done) | omega | (simp; omega)) _ | refine Below.setCell ?_ (by first | (simp; done) | omega | (simp; omega)) _)))).mono ?_
                  rintro e w1 ⟨rfl, hb1⟩
                  go_wp2_with fail
                  go_ret
                  exact ⟨rfl, Below.trans (by repeat (first | exact Below.refl _ _ | assumption | refine Below.drew ?_ | refine below_drewN ?_ _ | refine Below.alloc ?_ (by first | (simp; done) | omega | (simp; omega)) _ | refine Below.setCell ?_ (by first | (simp; done) | omega | (simp; omega)) _)) (hb1.mono (by simp))⟩
    refine walk (knP id) ?_ ?_ ?_
    · cases hp : isPlain id with
      | true =>
        have := (nameB_ne id).2 hp
        cases hn : nameB id with
        | nil => exact absurd hn this
        | cons _ _ => rfl
      | false =>
        have : nameB id = [] := by
          by_cases h : nameB id = []
          · exact h
          · rw [(nameB_ne id).1 h] at hp; cases hp
        rw [this]
        rfl
    · intro hp
      have : kn id = 0 := by unfold kn; rw [if_pos (Or.inr hp)]
      unfold knP
      rw [this]
      rfl
    · intro hp
      have : kn id = if id = 32 ∨ id = 34 then 1 else if id = 33 then 2 else if id = 48 ∨ id = 49 then -1 else -2 := by unfold kn; rw [if_neg (by simp [hp, h0])]
      unfold knP
      rw [this]
      by_cases c1 : id = 32 ∨ id = 34
      · simp only [if_pos c1]; rfl
      · simp only [if_neg c1]
        by_cases c2 : id = 33
        · simp only [if_pos c2]; rfl
        · simp only [if_neg c2]
          by_cases c3 : id = 48 ∨ id = 49
          · simp only [if_pos c3]; rfl
          · simp only [if_neg c3]; rfl
end Go.Proofs.Sb
