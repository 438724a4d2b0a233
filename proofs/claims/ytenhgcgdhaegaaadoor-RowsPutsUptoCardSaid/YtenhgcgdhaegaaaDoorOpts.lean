/- Words for types of values in memory (api.Option). No conditions. -/
import Derived.Test.YtenhgcgdhaegaaaDoorPlano
import Derived.Test.YtenhgcgdhaegaaaDoorArr
import Derived.Test.YtenhgcgdhaegaaaDoorMaps
set_option linter.unusedVariables false
set_option linter.unusedSimpArgs false
namespace Go.Proofs.Sb
open Go.RowKit _root_.Sb

/-- the cells of a type of so many levels -/
def optD (S : Nat → Prop) (w : World) (M : Nat) : Nat → Opt → List Value → Prop
  | 0, _, _ => False
  | d + 1, o, v => ∃ A1 n1 c1 A2 n2 c2, v = [.int .u16 (o.id : Int), .string (str o.space), .string (str o.name), .slice A1 n1 c1, .slice A2 n2 c2] ∧ o.id < 65536 ∧ o.space.length ≤ M ∧ o.name.length ≤ M ∧
      Arr 1 strP S w A1 n1 c1 o.names ∧ Arr 5 (optD S w M d) S w A2 n2 c2 o.kids
/-- the same, its two slices named -/
structure OptR (S : Nat → Prop) (w : World) (M d : Nat) (A1 : Option Addr) (n1 c1 : Nat) (A2 : Option Addr) (n2 c2 : Nat) (o : Opt) : Prop where
  id : o.id < 65536
  space : o.space.length ≤ M
  name : o.name.length ≤ M
  names : Arr 1 strP S w A1 n1 c1 o.names
  kids : Arr 5 (optD S w M d) S w A2 n2 c2 o.kids
/-- a type's value -/
abbrev optV (o : Opt) (A1 : Option Addr) (n1 c1 : Nat) (A2 : Option Addr) (n2 c2 : Nat) : Value := .agg #[.int .u16 (o.id : Int), .string (str o.space), .string (str o.name), .slice A1 n1 c1, .slice A2 n2 c2]
theorem optD.open {S : Nat → Prop} {w : World} {M d : Nat} {o : Opt} {v : List Value} (h : optD S w M d o v) : ∃ e A1 n1 c1 A2 n2 c2, d = e + 1 ∧ v = [.int .u16 (o.id : Int), .string (str o.space), .string (str o.name), .slice A1 n1 c1, .slice A2 n2 c2] ∧ OptR S w M e A1 n1 c1 A2 n2 c2 o := by
  cases d with
  | zero => exact h.elim
  | succ d =>
    obtain ⟨A1, n1, c1, A2, n2, c2, h1, h2, h3, h4, h5, h6⟩ := h
    exact ⟨d, A1, n1, c1, A2, n2, c2, rfl, h1, h2, h3, h4, h5, h6⟩
theorem Arr.keep {α : Type} {k : Nat} {P : α → List Value → Prop} {S : Nat → Prop} {w w' : World} {A : Option Addr} {n c : Nat} {l : List α} (h : Arr k P S w A n c l) (hs : w.heap.size ≤ w'.heap.size) (hk : ∀ b, S b → b < w.heap.size → w'.heap[b]? = w.heap[b]?) : Arr k P S w' A n c l := let ⟨h1, h2, h3, vs, h4, h5⟩ := h; ⟨h1, h2, h3, vs, h4, h5.keep hs hk⟩
theorem optD.keep {S : Nat → Prop} {w w' : World} {M : Nat} (hs : w.heap.size ≤ w'.heap.size) (hk : ∀ b, S b → b < w.heap.size → w'.heap[b]? = w.heap[b]?) : ∀ {d : Nat} {o : Opt} {v : List Value}, optD S w M d o v → optD S w' M d o v
  | 0, _, _, h => h
  | _ + 1, _, _, ⟨A1, n1, c1, A2, n2, c2, h1, h2, h3, h4, h5, h6⟩ => ⟨A1, n1, c1, A2, n2, c2, h1, h2, h3, h4, h5.keep hs hk, (h6.keep hs hk).imp fun _ _ _ h => optD.keep hs hk h⟩
theorem optD.mono {S S' : Nat → Prop} {w : World} {M : Nat} (hS : ∀ b, S b → b < w.heap.size → S' b) : ∀ {d : Nat} {o : Opt} {v : List Value}, optD S w M d o v → optD S' w M d o v
  | 0, _, _, h => h
  | _ + 1, _, _, ⟨A1, n1, c1, A2, n2, c2, h1, h2, h3, h4, h5, h6⟩ => ⟨A1, n1, c1, A2, n2, c2, h1, h2, h3, h4, h5.mono hS, (h6.mono hS).imp fun _ _ _ h => optD.mono hS h⟩
theorem optD.up {S : Nat → Prop} {w : World} {M : Nat} : ∀ {d : Nat} {o : Opt} {v : List Value}, optD S w M d o v → optD S w M (d + 1) o v
  | 0, _, _, h => h.elim
  | _ + 1, _, _, ⟨A1, n1, c1, A2, n2, c2, h1, h2, h3, h4, h5, h6⟩ => ⟨A1, n1, c1, A2, n2, c2, h1, h2, h3, h4, h5, h6.imp fun _ _ _ h => optD.up h⟩
theorem optD.le {S : Nat → Prop} {w : World} {M d d' : Nat} (hd : d ≤ d') {o : Opt} {v : List Value} (h : optD S w M d o v) : optD S w M d' o v := by
  induction hd with
  | refl => exact h
  | step _ ih => exact optD.up ih
theorem optD.cap {S : Nat → Prop} {w : World} {M : Nat} : ∀ {d : Nat} {o : Opt} {v : List Value}, optD S w M d o v → capD M d o
  | 0, _, _, h => h.elim
  | d + 1, _, _, ⟨A1, n1, c1, A2, n2, c2, h1, h2, h3, h4, h5, h6⟩ => ⟨h3, h4, fun k hk => by
    obtain ⟨_, _, _, vs, h7, _⟩ := h6
    have key : ∀ {l : List Opt} {vs : List Value}, Els 5 (optD S w M d) l vs → ∀ k ∈ l, ∃ v, optD S w M d k v := by
      intro l
      induction l with
      | nil => intro vs _ k hk; cases hk
      | cons x l ih =>
        intro vs ⟨v, r, _, _, hp, h⟩ k hk
        rcases List.mem_cons.1 hk with rfl | hk
        · exact ⟨v, hp⟩
        · exact ih h k hk
    obtain ⟨v, hv⟩ := key h7 k hk
    exact optD.cap hv⟩
theorem optD.wide {S : Nat → Prop} {w : World} {M M' : Nat} (hM : M ≤ M') : ∀ {d : Nat} {o : Opt} {v : List Value}, optD S w M d o v → optD S w M' d o v
  | 0, _, _, h => h
  | _ + 1, _, _, ⟨A1, n1, c1, A2, n2, c2, h1, h2, h3, h4, h5, h6⟩ => ⟨A1, n1, c1, A2, n2, c2, h1, h2, Nat.le_trans h3 hM, Nat.le_trans h4 hM, h5, h6.imp fun _ _ _ h => optD.wide hM h⟩
theorem optD.one {S : Nat → Prop} {w : World} {M d : Nat} {o : Opt} {v : List Value} (h : optD S w M d o v) : ∀ u ∈ v, u.oneCell' = true := by
  obtain ⟨e, A1, n1, c1, A2, n2, c2, _, rfl, _⟩ := h.open
  intro u hu
  simp at hu
  rcases hu with rfl | rfl | rfl | rfl | rfl <;> rfl
section
variable {S S' : Nat → Prop} {w w' : World} {M d : Nat} {A1 : Option Addr} {n1 c1 : Nat} {A2 : Option Addr} {n2 c2 : Nat} {o : Opt}
theorem OptR.to (h : OptR S w M d A1 n1 c1 A2 n2 c2 o) : optD S w M (d + 1) o [.int .u16 (o.id : Int), .string (str o.space), .string (str o.name), .slice A1 n1 c1, .slice A2 n2 c2] := ⟨A1, n1, c1, A2, n2, c2, rfl, h.id, h.space, h.name, h.names, h.kids⟩
theorem OptR.keep (h : OptR S w M d A1 n1 c1 A2 n2 c2 o) (hs : w.heap.size ≤ w'.heap.size) (hk : ∀ b, S b → b < w.heap.size → w'.heap[b]? = w.heap[b]?) : OptR S w' M d A1 n1 c1 A2 n2 c2 o :=
  ⟨h.id, h.space, h.name, h.names.keep hs hk, (h.kids.keep hs hk).imp fun _ _ _ h => h.keep hs hk⟩
theorem OptR.after (h : OptR S w M d A1 n1 c1 A2 n2 c2 o) (hb : Below w.heap.size w w') : OptR S w' M d A1 n1 c1 A2 n2 c2 o := h.keep hb.size fun b _ hlt => hb.block b hlt
theorem OptR.grown {row : Option Nat} (h : OptR S w M d A1 n1 c1 A2 n2 c2 o) (hg : w.grownBy w' row) (hr : ∀ b, S b → some b ≠ row) : OptR S w' M d A1 n1 c1 A2 n2 c2 o := h.keep hg.size fun b hs hlt => hg.block b hlt (hr b hs)
theorem OptR.mono (h : OptR S w M d A1 n1 c1 A2 n2 c2 o) (hS : ∀ b, S b → b < w.heap.size → S' b) : OptR S' w M d A1 n1 c1 A2 n2 c2 o :=
  ⟨h.id, h.space, h.name, h.names.mono hS, (h.kids.mono hS).imp fun _ _ _ h => h.mono hS⟩
theorem OptR.lt (h : OptR S w M d A1 n1 c1 A2 n2 c2 o) : OptR (fun b => S b ∧ b < w.heap.size) w M d A1 n1 c1 A2 n2 c2 o := h.mono fun _ h1 h2 => ⟨h1, h2⟩
/-- the same at the world's end of a call: what lay below the world's size lies there still -/
theorem OptR.fin {N : Nat} (h : OptR (fun b => S b ∧ b < N) w M d A1 n1 c1 A2 n2 c2 o) (hb : Below N w w') : OptR S w' M d A1 n1 c1 A2 n2 c2 o := (h.keep hb.size fun b hs _ => hb.block b hs.2).mono fun _ hs _ => hs.1
theorem OptR.setCell (h : OptR S w M d A1 n1 c1 A2 n2 c2 o) {p : Addr} (hp : ∀ b, S b → b ≠ p.block) (u : Value) : OptR S (w.setCell p u) M d A1 n1 c1 A2 n2 c2 o := h.keep (by simp) fun b hs _ => Below.heap_setCell w p u b (hp b hs)
theorem OptR.wide {M' : Nat} (hM : M ≤ M') (h : OptR S w M d A1 n1 c1 A2 n2 c2 o) : OptR S w M' d A1 n1 c1 A2 n2 c2 o := ⟨h.id, Nat.le_trans h.space hM, Nat.le_trans h.name hM, h.names, h.kids.imp fun _ _ _ h => h.wide hM⟩
theorem OptR.up (h : OptR S w M d A1 n1 c1 A2 n2 c2 o) {d' : Nat} (hd : d ≤ d') : OptR S w M d' A1 n1 c1 A2 n2 c2 o := ⟨h.id, h.space, h.name, h.names, h.kids.imp fun _ _ _ h => h.le hd⟩
theorem OptR.none : OptR S w M d none 0 0 none 0 0 Opt.none := ⟨by decide, Nat.zero_le _, Nat.zero_le _, Arr.nil, Arr.nil⟩
end
end Go.Proofs.Sb

/- Walks over option.name, option.kids. Conditions: the table of names reads as it was laid. -/
namespace Go.Proofs.Sb
open Go.RowKit _root_.Sb

/-- the table of the plain types' names reads as it was laid -/
def Pl (w : World) : Prop := ∀ i s, plainNames[i]? = some s → w.cell? ⟨0, i, none⟩ = some (.string (str s))
theorem Pl.pos {w : World} (h : Pl w) : 0 < w.heap.size := World.block_lt_of_cell? w ⟨0, 0, none⟩ (h 0 [] rfl)
theorem Pl.keep {w w' : World} (h : Pl w) (hk : w'.heap[0]? = w.heap[0]?) : Pl w' := fun i s hi => (World.cell?_of_block (a := ⟨0, i, none⟩) hk).trans (h i s hi)
theorem Pl.after {w w' : World} (h : Pl w) (hb : Below w.heap.size w w') : Pl w' := h.keep (hb.block 0 h.pos)
theorem Pl.grown {w w' : World} {row : Option Nat} (h : Pl w) (hg : w.grownBy w' row) (hr : row ≠ some 0) : Pl w' := h.keep (hg.block 0 h.pos fun e => hr e.symm)
theorem Pl.setCell {w : World} (h : Pl w) {p : Addr} (hp : p.block ≠ 0) (u : Value) : Pl (w.setCell p u) := h.keep (Below.heap_setCell w p u 0 fun e => hp e.symm)

set_option maxRecDepth 100000 in
theorem name_any {id : Nat} (hid : id < 65536) {w : World} (hw : Pl w) :
    Calls Tryd.prog 92 #[.int .u16 (id : Int)] w fun e w' => e = .returned (.string (str (nameB id))) ∧ Below w.heap.size w w' := by
  have HW := Lib.hid hw; clear hw
  by_cases h : id < 21
  · obtain ⟨s, hs⟩ : ∃ s, plainNames[id]? = some s := ⟨_, List.getElem?_eq_getElem (by simp [plainNames]; omega)⟩
    have hc := HW.out id s hs
    have hn : nameB id = s := by unfold nameB; rw [hs]; rfl
    rw [hn]
    clear hn hs
    go_enter Tryd.func92, Tryd.ntmps92
    go_wp2_with fail
    go_ret
    exact ⟨rfl, (by repeat (first | exact Below.refl _ _ | assumption | refine Below.drew ?_ | refine below_drewN ?_ _ | refine Below.alloc ?_ (by first | (simp; done) | omega | (simp; omega)) _ | refine Below.setCell ?_ (by first | (simp; done) | omega | (simp; omega)) _))⟩
  · have hn : nameB id = [] := by unfold nameB; rw [List.getElem?_eq_none (by simp [plainNames]; omega)]; rfl
    rw [hn]
    clear hn
    go_enter Tryd.func92, Tryd.ntmps92
    go_wp2_with fail
    go_ret
    exact ⟨rfl, (by repeat (first | exact Below.refl _ _ | assumption | refine Below.drew ?_ | refine below_drewN ?_ _ | refine Below.alloc ?_ (by first | (simp; done) | omega | (simp; omega)) _ | refine Below.setCell ?_ (by first | (simp; done) | omega | (simp; omega)) _))⟩
def knP (id : Nat) : Int := if kn id = -2 then 3 else kn id
set_option maxRecDepth 100000 in
theorem kids_any {id : Nat} (hid : id < 65536) {w : World} (hw : Pl w) :
    Calls Tryd.prog 89 #[.int .u16 (id : Int)] w fun e w' => e = .returned (.int .i64 (knP id)) ∧ Below w.heap.size w w' := by
  have HW := Lib.hid hw; clear hw
  by_cases h0 : id = 0
  · subst h0
    go_enter Tryd.func89, Tryd.ntmps89
    go_wp2_with fail
    go_ret
    exact ⟨rfl, (by repeat (first | exact Below.refl _ _ | assumption | refine Below.drew ?_ | refine below_drewN ?_ _ | refine Below.alloc ?_ (by first | (simp; done) | omega | (simp; omega)) _ | refine Below.setCell ?_ (by first | (simp; done) | omega | (simp; omega)) _))⟩
  · have walk : ∀ r : Int, (nameB id).isEmpty = (!isPlain id) → (isPlain id = true → r = 0) → (isPlain id = false → r = if id = 32 ∨ id = 34 then 1 else if id = 33 then 2 else if id = 48 ∨ id = 49 then -1 else 3) →
        Calls Tryd.prog 89 #[.int .u16 (id : Int)] w fun e w' => e = .returned (.int .i64 r) ∧ Below w.heap.size w w' := by
      intro r hne h1 h2
      cases hp : isPlain id with
      | true =>
        replace hne : List.isEmpty (nameB id) = false := by rw [hne, hp]; rfl
        have hor : (((id : Nat) : Int) == 0 || !List.isEmpty (nameB id)) = true := by rw [hne]; simp
        obtain rfl := h1 hp
        clear h1 h2 hp
        go_enter Tryd.func89, Tryd.ntmps89
        go_wp2_with fail
        refine (name_any hid (HW.out.after (by repeat (first | exact Below.refl _ _ | assumption | refine Below.drew ?_ | refine below_drewN ?_ _ | refine Below.alloc ?_ (by first | (simp; done) | omega | (simp; omega)) _ | refine Below.setCell ?_ (by first | (simp; done) | omega | (simp; omega)) _)))).mono ?_
        rintro e w1 ⟨rfl, hb1⟩
        go_wp2_with fail
        go_ret
        exact ⟨rfl, Below.trans (by repeat (first | exact Below.refl _ _ | assumption | refine Below.drew ?_ | refine below_drewN ?_ _ | refine Below.alloc ?_ (by first | (simp; done) | omega | (simp; omega)) _ | refine Below.setCell ?_ (by first | (simp; done) | omega | (simp; omega)) _)) (hb1.mono (by simp))⟩
      | false =>
        replace hne : List.isEmpty (nameB id) = true := by rw [hne, hp]; rfl
        have h2 := h2 hp
        clear h1 hp
        by_cases c1 : id = 32
        · subst c1
          obtain rfl := h2
          go_enter Tryd.func89, Tryd.ntmps89
          go_wp2_with fail
          refine (name_any hid (HW.out.after (by repeat (first | exact Below.refl _ _ | assumption | refine Below.drew ?_ | refine below_drewN ?_ _ | refine Below.alloc ?_ (by first | (simp; done) | omega | (simp; omega)) _ | refine Below.setCell ?_ (by first | (simp; done) | omega | (simp; omega)) _)))).mono ?_
          rintro e w1 ⟨rfl, hb1⟩
          go_wp2_with fail
          go_ret
          exact ⟨rfl, Below.trans (by repeat (first | exact Below.refl _ _ | assumption | refine Below.drew ?_ | refine below_drewN ?_ _ | refine Below.alloc ?_ (by first | (simp; done) | omega | (simp; omega)) _ | refine Below.setCell ?_ (by first | (simp; done) | omega | (simp; omega)) _)) (hb1.mono (by simp))⟩
        · by_cases c2 : id = 34
          · subst c2
            obtain rfl := h2
            go_enter Tryd.func89, Tryd.ntmps89
            go_wp2_with fail
            refine (name_any hid (HW.out.after (by repeat (first | exact Below.refl _ _ | assumption | refine Below.drew ?_ | refine below_drewN ?_ _ | refine Below.alloc ?_ (by first | (simp; done) | omega | (simp; omega)) _ | refine Below.setCell ?_ (by first | (simp; done) | omega | (simp; omega)) _)))).mono ?_
            rintro e w1 ⟨rfl, hb1⟩
            go_wp2_with fail
            go_ret
            exact ⟨rfl, Below.trans (by repeat (first | exact Below.refl _ _ | assumption | refine Below.drew ?_ | refine below_drewN ?_ _ | refine Below.alloc ?_ (by first | (simp; done) | omega | (simp; omega)) _ | refine Below.setCell ?_ (by first | (simp; done) | omega | (simp; omega)) _)) (hb1.mono (by simp))⟩
          · by_cases c3 : id = 33
            · subst c3
              obtain rfl := h2
              go_enter Tryd.func89, Tryd.ntmps89
              go_wp2_with fail
              refine (name_any hid (HW.out.after (by repeat (first | exact Below.refl _ _ | assumption | refine Below.drew ?_ | refine below_drewN ?_ _ | refine Below.alloc ?_ (by first | (simp; done) | omega | (simp; omega)) _ | refine Below.setCell ?_ (by first | (simp; done) | omega | (simp; omega)) _)))).mono ?_
              rintro e w1 ⟨rfl, hb1⟩
              go_wp2_with fail
              go_ret
              exact ⟨rfl, Below.trans (by repeat (first | exact Below.refl _ _ | assumption | refine Below.drew ?_ | refine below_drewN ?_ _ | refine Below.alloc ?_ (by first | (simp; done) | omega | (simp; omega)) _ | refine Below.setCell ?_ (by first | (simp; done) | omega | (simp; omega)) _)) (hb1.mono (by simp))⟩
            · by_cases c4 : id = 48
              · subst c4
                obtain rfl := h2
                go_enter Tryd.func89, Tryd.ntmps89
                go_wp2_with fail
                refine (name_any hid (HW.out.after (by repeat (first | exact Below.refl _ _ | assumption | refine Below.drew ?_ | refine below_drewN ?_ _ | refine Below.alloc ?_ (by first | (simp; done) | omega | (simp; omega)) _ | refine Below.setCell ?_ (by first | (simp; done) | omega | (simp; omega)) _)))).mono ?_
                rintro e w1 ⟨rfl, hb1⟩
                go_wp2_with fail
                go_ret
                exact ⟨rfl, Below.trans (by repeat (first | exact Below.refl _ _ | assumption | refine Below.drew ?_ | refine below_drewN ?_ _ | refine Below.alloc ?_ (by first | (simp; done) | omega | (simp; omega)) _ | refine Below.setCell ?_ (by first | (simp; done) | omega | (simp; omega)) _)) (hb1.mono (by simp))⟩
              · by_cases c5 : id = 49
                · subst c5
                  obtain rfl := h2
                  go_enter Tryd.func89, Tryd.ntmps89
                  go_wp2_with fail
                  refine (name_any hid (HW.out.after (by repeat (first | exact Below.refl _ _ | assumption | refine Below.drew ?_ | refine below_drewN ?_ _ | refine Below.alloc ?_ (by first | (simp; done) | omega | (simp; omega)) _ | refine Below.setCell ?_ (by first | (simp; done) | omega | (simp; omega)) _)))).mono ?_
                  rintro e w1 ⟨rfl, hb1⟩
                  go_wp2_with fail
                  go_ret
                  exact ⟨rfl, Below.trans (by repeat (first | exact Below.refl _ _ | assumption | refine Below.drew ?_ | refine below_drewN ?_ _ | refine Below.alloc ?_ (by first | (simp; done) | omega | (simp; omega)) _ | refine Below.setCell ?_ (by first | (simp; done) | omega | (simp; omega)) _)) (hb1.mono (by simp))⟩
                · rw [if_neg (by omega), if_neg c3, if_neg (by omega)] at h2
                  subst h2
                  have d1 : (((id : Nat) : Int) == 32 || ((id : Nat) : Int) == 34) = false := by simp; omega
                  have d2 : (((id : Nat) : Int) == 48 || ((id : Nat) : Int) == 49) = false := by simp; omega
                  go_enter Tryd.func89, Tryd.ntmps89
                  go_wp2_with fail
                  refine (name_any hid (HW.out.after (by repeat (first | exact Below.refl _ _ | assumption | refine Below.drew ?_ | refine below_drewN ?_ _ | refine Below.alloc ?_ (by first | (simp; done) | omega | (simp; omega)) _ | refine Below.setCell ?_ (by first | (simp; done) | omega | (simp; omega)) _)))).mono ?_
                  rintro e w1 ⟨rfl, hb1⟩
                  go_wp2_with fail
                  go_ret
                  exact ⟨rfl, Below.trans (by repeat (first | exact Below.refl _ _ | assumption | refine Below.drew ?_ | refine below_drewN ?_ _ | refine Below.alloc ?_ (by first | (simp; done) | omega | (simp; omega)) _ | refine Below.setCell ?_ (by first | (simp; done) | omega | (simp; omega)) _)) (hb1.mono (by simp))⟩
    refine walk (knP id) ?_ ?_ ?_
    · cases hp : isPlain id with
      | true =>
        have := (nameB_ne id).2 hp
        cases hn : nameB id with
        | nil => exact absurd hn this
        | cons _ _ => rfl
      | false =>
        have : nameB id = [] := by
          by_cases h : nameB id = []
          · exact h
          · rw [(nameB_ne id).1 h] at hp; cases hp
        rw [this]
        rfl
    · intro hp
      have : kn id = 0 := by unfold kn; rw [if_pos (Or.inr hp)]
      unfold knP
      rw [this]
      rfl
    · intro hp
      have : kn id = if id = 32 ∨ id = 34 then 1 else if id = 33 then 2 else if id = 48 ∨ id = 49 then -1 else -2 := by unfold kn; rw [if_neg (by simp [hp, h0])]
      unfold knP
      rw [this]
      by_cases c1 : id = 32 ∨ id = 34
      · simp only [if_pos c1]; rfl
      · simp only [if_neg c1]
        by_cases c2 : id = 33
        · simp only [if_pos c2]; rfl
        · simp only [if_neg c2]
          by_cases c3 : id = 48 ∨ id = 49
          · simp only [if_pos c3]; rfl
          · simp only [if_neg c3]; rfl
end Go.Proofs.Sb
