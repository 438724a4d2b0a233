/- Walks over signalboxref04.many, own. No conditions. -/
import Derived.Test.YtenhgcgdhaegaaaDoorOptm
set_option linter.unusedVariables false
set_option linter.unusedSimpArgs false
namespace Go.Proofs.Sb
open Go.RowKit _root_.Sb

set_option maxHeartbeats 2000000 in
set_option maxRecDepth 100000 in
theorem many_any {id : Nat} (hid : id < 65536) (w : World) :
    Calls Tryd.prog 82 #[.int .u16 (id : Int)] w fun e w' => e = .returned (.int .i64 (kn id)) ∧ Below w.heap.size w w' := by
  by_cases h0 : id = 0
  · subst h0
    go_enter Tryd.func82, Tryd.ntmps82
    go_wp2_with fail
    refine (names4_any _).mono ?_
    rintro e w1 ⟨g, rfl, hg1, hg2, hcl, hb1⟩
    skip
    clear hcl
    go_wp2_with fail
    go_ret
    exact ⟨rfl, Below.trans (by repeat (first | exact Below.refl _ _ | assumption | refine Below.drew ?_ | refine below_drewN ?_ _ | refine Below.alloc ?_ (by first | (simp; done) | omega | (simp; omega)) _ | refine Below.setCell ?_ (by first | (simp; done) | omega | (simp; omega)) _)) (hb1.mono (by simp))⟩
  · have walk : ∀ r : Int, (isPlain id = true → r = 0) → (isPlain id = false → r = if id = 32 ∨ id = 34 then 1 else if id = 33 then 2 else if id = 48 ∨ id = 49 then -1 else -2) →
        Calls Tryd.prog 82 #[.int .u16 (id : Int)] w fun e w' => e = .returned (.int .i64 r) ∧ Below w.heap.size w w' := by
      intro r h1 h2
      have hne0 : (((id : Nat) : Int) == 0) = false := by simp; omega
      cases hp : isPlain id with
      | true =>
        obtain rfl := h1 hp
        have hlt : id < 21 := by simp [isPlain] at hp; omega
        obtain ⟨s, hs⟩ : ∃ s, plainNames[id]? = some s := ⟨_, List.getElem?_eq_getElem (by simp [plainNames]; omega)⟩
        have hne : List.isEmpty s = false := by
          have h := (nameB_ne id).2 hp
          unfold nameB at h
          rw [hs] at h
          cases s with
          | nil => exact absurd rfl h
          | cons _ _ => rfl
        clear h1 h2 hp
        have HS := Lib.hid hs; clear hs
        go_enter Tryd.func82, Tryd.ntmps82
        go_wp2_with fail
        refine (names4_any _).mono ?_
        rintro e w1 ⟨g, rfl, hg1, hg2, hcl, hb1⟩
        have hc := hcl id s HS.out
        clear hcl
        go_wp2_with fail
        go_ret
        exact ⟨rfl, Below.trans (by repeat (first | exact Below.refl _ _ | assumption | refine Below.drew ?_ | refine below_drewN ?_ _ | refine Below.alloc ?_ (by first | (simp; done) | omega | (simp; omega)) _ | refine Below.setCell ?_ (by first | (simp; done) | omega | (simp; omega)) _)) (hb1.mono (by simp))⟩
      | false =>
        have h2 := h2 hp
        clear h1
        by_cases c0 : id = 10
        · subst c0
          obtain rfl := h2
          clear hp
          go_enter Tryd.func82, Tryd.ntmps82
          go_wp2_with fail
          refine (names4_any _).mono ?_
          rintro e w1 ⟨g, rfl, hg1, hg2, hcl, hb1⟩
          have hc := hcl 10 [] rfl
          clear hcl
          go_wp2_with fail
          go_ret
          exact ⟨rfl, Below.trans (by repeat (first | exact Below.refl _ _ | assumption | refine Below.drew ?_ | refine below_drewN ?_ _ | refine Below.alloc ?_ (by first | (simp; done) | omega | (simp; omega)) _ | refine Below.setCell ?_ (by first | (simp; done) | omega | (simp; omega)) _)) (hb1.mono (by simp))⟩
        · have hge : 21 ≤ id := by simp [isPlain] at hp; omega
          clear hp
          by_cases c1 : id = 32
          · subst c1
            obtain rfl := h2
            go_enter Tryd.func82, Tryd.ntmps82
            go_wp2_with fail
            refine (names4_any _).mono ?_
            rintro e w1 ⟨g, rfl, hg1, hg2, hcl, hb1⟩
            skip
            clear hcl
            go_wp2_with fail
            go_ret
            exact ⟨rfl, Below.trans (by repeat (first | exact Below.refl _ _ | assumption | refine Below.drew ?_ | refine below_drewN ?_ _ | refine Below.alloc ?_ (by first | (simp; done) | omega | (simp; omega)) _ | refine Below.setCell ?_ (by first | (simp; done) | omega | (simp; omega)) _)) (hb1.mono (by simp))⟩
          · by_cases c2 : id = 34
            · subst c2
              obtain rfl := h2
              go_enter Tryd.func82, Tryd.ntmps82
              go_wp2_with fail
              refine (names4_any _).mono ?_
              rintro e w1 ⟨g, rfl, hg1, hg2, hcl, hb1⟩
              skip
              clear hcl
              go_wp2_with fail
              go_ret
              exact ⟨rfl, Below.trans (by repeat (first | exact Below.refl _ _ | assumption | refine Below.drew ?_ | refine below_drewN ?_ _ | refine Below.alloc ?_ (by first | (simp; done) | omega | (simp; omega)) _ | refine Below.setCell ?_ (by first | (simp; done) | omega | (simp; omega)) _)) (hb1.mono (by simp))⟩
            · by_cases c3 : id = 33
              · subst c3
                obtain rfl := h2
                go_enter Tryd.func82, Tryd.ntmps82
                go_wp2_with fail
                refine (names4_any _).mono ?_
                rintro e w1 ⟨g, rfl, hg1, hg2, hcl, hb1⟩
                skip
                clear hcl
                go_wp2_with fail
                go_ret
                exact ⟨rfl, Below.trans (by repeat (first | exact Below.refl _ _ | assumption | refine Below.drew ?_ | refine below_drewN ?_ _ | refine Below.alloc ?_ (by first | (simp; done) | omega | (simp; omega)) _ | refine Below.setCell ?_ (by first | (simp; done) | omega | (simp; omega)) _)) (hb1.mono (by simp))⟩
              · by_cases c4 : id = 48
                · subst c4
                  obtain rfl := h2
                  go_enter Tryd.func82, Tryd.ntmps82
                  go_wp2_with fail
                  refine (names4_any _).mono ?_
                  rintro e w1 ⟨g, rfl, hg1, hg2, hcl, hb1⟩
                  skip
                  clear hcl
                  go_wp2_with fail
                  go_ret
                  exact ⟨rfl, Below.trans (by repeat (first | exact Below.refl _ _ | assumption | refine Below.drew ?_ | refine below_drewN ?_ _ | refine Below.alloc ?_ (by first | (simp; done) | omega | (simp; omega)) _ | refine Below.setCell ?_ (by first | (simp; done) | omega | (simp; omega)) _)) (hb1.mono (by simp))⟩
                · by_cases c5 : id = 49
                  · subst c5
                    obtain rfl := h2
                    go_enter Tryd.func82, Tryd.ntmps82
                    go_wp2_with fail
                    refine (names4_any _).mono ?_
                    rintro e w1 ⟨g, rfl, hg1, hg2, hcl, hb1⟩
                    skip
                    clear hcl
                    go_wp2_with fail
                    go_ret
                    exact ⟨rfl, Below.trans (by repeat (first | exact Below.refl _ _ | assumption | refine Below.drew ?_ | refine below_drewN ?_ _ | refine Below.alloc ?_ (by first | (simp; done) | omega | (simp; omega)) _ | refine Below.setCell ?_ (by first | (simp; done) | omega | (simp; omega)) _)) (hb1.mono (by simp))⟩
                  · rw [if_neg (by omega), if_neg c3, if_neg (by omega)] at h2
                    subst h2
                    go_enter Tryd.func82, Tryd.ntmps82
                    go_wp2_with fail
                    refine (names4_any _).mono ?_
                    rintro e w1 ⟨g, rfl, hg1, hg2, hcl, hb1⟩
                    skip
                    clear hcl
                    go_wp2_with fail
                    go_ret
                    exact ⟨rfl, Below.trans (by repeat (first | exact Below.refl _ _ | assumption | refine Below.drew ?_ | refine below_drewN ?_ _ | refine Below.alloc ?_ (by first | (simp; done) | omega | (simp; omega)) _ | refine Below.setCell ?_ (by first | (simp; done) | omega | (simp; omega)) _)) (hb1.mono (by simp))⟩
    refine walk (kn id) ?_ ?_
    · intro hp
      unfold kn
      rw [if_pos (Or.inr hp)]
    · intro hp
      unfold kn
      rw [if_neg (by simp [hp, h0])]
set_option maxHeartbeats 2000000 in
set_option maxRecDepth 100000 in
theorem own4_any {S : Nat → Prop} {M d : Nat} {A1 : Option Addr} {n1 c1 : Nat} {A2 : Option Addr} {n2 c2 : Nat} {o : Opt} {w : World} (ho : OptR S w M d A1 n1 c1 A2 n2 c2 o) :
    Calls Tryd.prog 87 #[optV o A1 n1 c1 A2 n2 c2] w fun e w' => e = .returned (.bool (ownO o)) ∧ Below w.heap.size w w' := by
  have hl1 := ho.names.len
  have hl2 := ho.kids.len
  have hid := ho.id
  have hcap1 := ho.names.cap
  have hcm1 := ho.names.capMax
  have hcap2 := ho.kids.cap
  have hcm2 := ho.kids.capMax
  clear ho
  have hr := kn_range o.id
  have HL1 := Lib.hid hl1; clear hl1
  have HL2 := Lib.hid hl2; clear hl2
  have walk : ∀ (v : Int) (res : Bool), kn o.id = v → (v = -2 → res = false) → (v ≠ -2 → 0 ≤ v → (n2 : Int) ≠ v → res = false) →
      (v ≠ -2 → (0 ≤ v → (n2 : Int) = v) → o.id = 48 → res = decide (n1 = n2)) → (v ≠ -2 → (0 ≤ v → (n2 : Int) = v) → ¬ o.id = 48 → res = decide (n1 = 0)) → (v = -1 ∨ v = 0 ∨ v = 1 ∨ v = 2 ∨ v = -2) →
      Calls Tryd.prog 87 #[optV o A1 n1 c1 A2 n2 c2] w fun e w' => e = .returned (.bool res) ∧ Below w.heap.size w w' := by
    intro v res hv h1 h2 h3 h4 h5
    obtain ⟨id, sp, nm, names, kids⟩ := o
    simp only at *
    have key : ∀ (hx : v = -2 ∨ (v ≠ -2 ∧ 0 ≤ v ∧ (n2 : Int) ≠ v) ∨ (v ≠ -2 ∧ (0 ≤ v → (n2 : Int) = v) ∧ id = 48) ∨ (v ≠ -2 ∧ (0 ≤ v → (n2 : Int) = v) ∧ ¬ id = 48)), Calls Tryd.prog 87 #[optV ⟨id, sp, nm, names, kids⟩ A1 n1 c1 A2 n2 c2] w fun e w' => e = .returned (.bool res) ∧ Below w.heap.size w w' := by
      intro hx
      have H1 := Lib.hid h1; clear h1
      have H2 := Lib.hid h2; clear h2
      have H3 := Lib.hid h3; clear h3
      have H4 := Lib.hid h4; clear h4
      rcases hx with hx | ⟨x1, x2, x3⟩ | ⟨x1, x2, x3⟩ | ⟨x1, x2, x3⟩
      · obtain rfl := H1.out hx
        subst hx
        go_enter Tryd.func87, Tryd.ntmps87
        go_wp2_with fail
        refine (many_any hid _).mono ?_
        rintro e w1 ⟨rfl, hb1⟩
        rw [hv]
        go_wp2_with fail
        go_ret
        exact ⟨rfl, Below.trans (by repeat (first | exact Below.refl _ _ | assumption | refine Below.drew ?_ | refine below_drewN ?_ _ | refine Below.alloc ?_ (by first | (simp; done) | omega | (simp; omega)) _ | refine Below.setCell ?_ (by first | (simp; done) | omega | (simp; omega)) _)) (hb1.mono (by simp))⟩
      · obtain rfl := H2.out x1 x2 x3
        have hne : ((n2 : Int) != v) = true := by rw [bne_iff_ne]; exact x3
        have hge : (decide (0 ≤ v)) = true := decide_eq_true x2
        go_enter Tryd.func87, Tryd.ntmps87
        go_wp2_with fail
        refine (many_any hid _).mono ?_
        rintro e w1 ⟨rfl, hb1⟩
        rw [hv]
        have p4 : w1.cell? ⟨w.heap.size, 4, none⟩ = some (.slice A2 n2 c2) := kcell hb1 (by go_simp)
        replace hb1 : Below w.heap.size w w1 := Below.trans (by repeat (first | exact Below.refl _ _ | assumption | refine Below.drew ?_ | refine below_drewN ?_ _ | refine Below.alloc ?_ (by first | (simp; done) | omega | (simp; omega)) _ | refine Below.setCell ?_ (by first | (simp; done) | omega | (simp; omega)) _)) (hb1.mono (by simp))
        rcases h5 with rfl | rfl | rfl | rfl | rfl
        all_goals first | (exfalso; omega) | skip
        all_goals go_wp2_with fail
        all_goals go_ret
        all_goals exact ⟨rfl, hb1⟩
      · subst x3
        have E := Lib.hid (H3.out x1 x2 rfl)
        go_enter Tryd.func87, Tryd.ntmps87
        go_wp2_with fail
        refine (many_any hid _).mono ?_
        rintro e w1 ⟨rfl, hb1⟩
        rw [hv]
        have p0 : w1.cell? ⟨w.heap.size, 0, none⟩ = some (.int .u16 ((48 : Nat))) := kcell hb1 (by go_simp)
        have p3 : w1.cell? ⟨w.heap.size, 3, none⟩ = some (.slice A1 n1 c1) := kcell hb1 (by go_simp)
        have p4 : w1.cell? ⟨w.heap.size, 4, none⟩ = some (.slice A2 n2 c2) := kcell hb1 (by go_simp)
        replace hb1 : Below w.heap.size w w1 := Below.trans (by repeat (first | exact Below.refl _ _ | assumption | refine Below.drew ?_ | refine below_drewN ?_ _ | refine Below.alloc ?_ (by first | (simp; done) | omega | (simp; omega)) _ | refine Below.setCell ?_ (by first | (simp; done) | omega | (simp; omega)) _)) (hb1.mono (by simp))
        rcases h5 with rfl | rfl | rfl | rfl | rfl
        · go_wp2_with fail
          go_ret
          exact ⟨by rw [E.out]; exact congrArg (fun b => Ending.returned (Value.bool b)) (beq_nat _ _), hb1⟩
        · obtain rfl : n2 = 0 := by have := x2 (by omega); omega
          go_wp2_with fail
          go_ret
          exact ⟨by rw [E.out]; exact congrArg (fun b => Ending.returned (Value.bool b)) (beq_nat _ _), hb1⟩
        · obtain rfl : n2 = 1 := by have := x2 (by omega); omega
          go_wp2_with fail
          go_ret
          exact ⟨by rw [E.out]; exact congrArg (fun b => Ending.returned (Value.bool b)) (beq_nat _ _), hb1⟩
        · obtain rfl : n2 = 2 := by have := x2 (by omega); omega
          go_wp2_with fail
          go_ret
          exact ⟨by rw [E.out]; exact congrArg (fun b => Ending.returned (Value.bool b)) (beq_nat _ _), hb1⟩
        · exact absurd rfl x1
      · have E := Lib.hid (H4.out x1 x2 x3)
        go_enter Tryd.func87, Tryd.ntmps87
        go_wp2_with fail
        refine (many_any hid _).mono ?_
        rintro e w1 ⟨rfl, hb1⟩
        rw [hv]
        have p0 : w1.cell? ⟨w.heap.size, 0, none⟩ = some (.int .u16 ((id : Nat))) := kcell hb1 (by go_simp)
        have p3 : w1.cell? ⟨w.heap.size, 3, none⟩ = some (.slice A1 n1 c1) := kcell hb1 (by go_simp)
        have p4 : w1.cell? ⟨w.heap.size, 4, none⟩ = some (.slice A2 n2 c2) := kcell hb1 (by go_simp)
        replace hb1 : Below w.heap.size w w1 := Below.trans (by repeat (first | exact Below.refl _ _ | assumption | refine Below.drew ?_ | refine below_drewN ?_ _ | refine Below.alloc ?_ (by first | (simp; done) | omega | (simp; omega)) _ | refine Below.setCell ?_ (by first | (simp; done) | omega | (simp; omega)) _)) (hb1.mono (by simp))
        rcases h5 with rfl | rfl | rfl | rfl | rfl
        · go_wp2_with fail
          go_ret
          exact ⟨by rw [E.out]; exact congrArg (fun b => Ending.returned (Value.bool b)) (beq_nat _ _), hb1⟩
        · obtain rfl : n2 = 0 := by have := x2 (by omega); omega
          go_wp2_with fail
          go_ret
          exact ⟨by rw [E.out]; exact congrArg (fun b => Ending.returned (Value.bool b)) (beq_nat _ _), hb1⟩
        · obtain rfl : n2 = 1 := by have := x2 (by omega); omega
          go_wp2_with fail
          go_ret
          exact ⟨by rw [E.out]; exact congrArg (fun b => Ending.returned (Value.bool b)) (beq_nat _ _), hb1⟩
        · obtain rfl : n2 = 2 := by have := x2 (by omega); omega
          go_wp2_with fail
          go_ret
          exact ⟨by rw [E.out]; exact congrArg (fun b => Ending.returned (Value.bool b)) (beq_nat _ _), hb1⟩
        · exact absurd rfl x1
    refine key ?_
    by_cases x1 : v = -2
    · exact .inl x1
    · by_cases x2 : 0 ≤ v
      · by_cases x3 : (n2 : Int) = v
        · by_cases x4 : id = 48
          · exact .inr (.inr (.inl ⟨x1, fun _ => x3, x4⟩))
          · exact .inr (.inr (.inr ⟨x1, fun _ => x3, x4⟩))
        · exact .inr (.inl ⟨x1, x2, x3⟩)
      · by_cases x4 : id = 48
        · exact .inr (.inr (.inl ⟨x1, fun h => absurd h x2, x4⟩))
        · exact .inr (.inr (.inr ⟨x1, fun h => absurd h x2, x4⟩))
  refine walk _ (ownO o) rfl ?_ ?_ ?_ ?_ ?_
  · exact fun h => ownO_bad1 h
  · intro h1 h2 h3
    exact ownO_bad2 h2 (by have := HL2.out; omega)
  · intro h1 h2 h3
    rw [ownO_rest h1 (fun h => by have := HL2.out; have := h2 h; omega)]; simp only [if_pos h3]; rw [HL1.out, HL2.out]
  · intro h1 h2 h3
    rw [ownO_rest h1 (fun h => by have := HL2.out; have := h2 h; omega)]; simp only [if_neg h3]; rw [HL1.out]
  · omega
end Go.Proofs.Sb
