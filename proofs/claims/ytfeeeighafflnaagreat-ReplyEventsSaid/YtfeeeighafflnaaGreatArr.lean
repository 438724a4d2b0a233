/- Words for slices of elements of several cells, and append of elements onto a row of the call's own. No conditions. -/
import Derived.Test.YtfeeeighafflnaaGreatBase
set_option linter.unusedVariables false
set_option linter.unusedSimpArgs false
namespace Go.Proofs.Sb
open Go.RowKit _root_.Sb

theorem kcell {W w : World} (hb : Below W.heap.size W w) {b o : Nat} {v : Value} (h : W.cell? ⟨b, o, none⟩ = some v) : w.cell? ⟨b, o, none⟩ = some v :=
  (hb.cell (p := ⟨b, o, none⟩) (World.block_lt_of_cell? W ⟨b, o, none⟩ h)).trans h

/-- the cells of a list's elements one behind the other, k cells each -/
def Els {α : Type} (k : Nat) (P : α → List Value → Prop) : List α → List Value → Prop
  | [], vs => vs = []
  | x :: l, vs => ∃ v r, vs = v ++ r ∧ v.length = k ∧ P x v ∧ Els k P l r
section
variable {α : Type} {k : Nat} {P P' : α → List Value → Prop}
theorem Els.nil : Els k P [] [] := rfl
theorem Els.one {x : α} {v : List Value} (hv : v.length = k) (h : P x v) : Els k P [x] v := ⟨v, [], by simp, hv, h, rfl⟩
theorem Els.app : ∀ {l l' : List α} {vs vs' : List Value}, Els k P l vs → Els k P l' vs' → Els k P (l ++ l') (vs ++ vs')
  | [], _, _, _, h, h' => by cases h; exact h'
  | _ :: _, _, _, _, ⟨v, r, e, hv, hp, h⟩, h' => ⟨v, r ++ _, by rw [e, List.append_assoc], hv, hp, Els.app h h'⟩
theorem Els.length : ∀ {l : List α} {vs : List Value}, Els k P l vs → vs.length = l.length * k
  | [], _, h => by cases h; simp
  | _ :: _, _, ⟨v, r, e, hv, _, h⟩ => by rw [e, List.length_append, hv, Els.length h, List.length_cons, Nat.add_mul]; omega
theorem Els.imp : ∀ {l : List α} {vs : List Value}, Els k P l vs → (∀ x ∈ l, ∀ v, P x v → P' x v) → Els k P' l vs
  | [], _, h, _ => h
  | x :: _, _, ⟨v, r, e, hv, hp, h⟩, hi => ⟨v, r, e, hv, hi x (by simp) v hp, Els.imp h fun y hy => hi y (by simp [hy])⟩
theorem Els.get : ∀ {l : List α} {vs : List Value} (_ : Els k P l vs) (i : Nat) (x : α), l[i]? = some x → ∃ v, v.length = k ∧ P x v ∧ ∀ j, j < k → vs[i * k + j]? = v[j]?
  | [], _, _, i, x, hx => by simp at hx
  | y :: l, _, ⟨v, r, e, hv, hp, h⟩, 0, x, hx => by
    simp at hx
    subst hx
    exact ⟨v, hv, hp, fun j hj => by rw [e, Nat.zero_mul, Nat.zero_add, List.getElem?_append_left (by omega)]⟩
  | y :: l, _, ⟨v, r, e, hv, hp, h⟩, i + 1, x, hx => by
    obtain ⟨u, h1, h2, h3⟩ := Els.get h i x (by simpa using hx)
    refine ⟨u, h1, h2, fun j hj => ?_⟩
    rw [e, List.getElem?_append_right (by rw [hv, Nat.add_mul]; omega), ← h3 j hj, hv]
    congr 1
    rw [Nat.add_mul]
    omega
theorem Els.cells {Q : Value → Prop} : ∀ {l : List α} {vs : List Value}, Els k P l vs → (∀ x v, P x v → ∀ u ∈ v, Q u) → ∀ u ∈ vs, Q u
  | [], _, h, _ => by cases h; simp
  | _ :: _, _, ⟨v, r, e, hv, hp, h⟩, hq => by
    intro u hu
    rw [e, List.mem_append] at hu
    rcases hu with hu | hu
    · exact hq _ _ hp u hu
    · exact Els.cells h hq u hu
/-- a list of which each element has its cells -/
theorem Els.mk : ∀ (l : List α) (f : Nat → List Value) (o : Nat), (∀ i x, l[i]? = some x → (f (o + i)).length = k ∧ P x (f (o + i))) → Els k P l ((List.range' o l.length).flatMap f)
  | [], _, _, _ => by simp [Els]
  | x :: l, f, o, h => by
    refine ⟨f o, (List.range' (o + 1) l.length).flatMap f, by simp [List.range'_succ], (h 0 x rfl).1, (h 0 x rfl).2, Els.mk l f (o + 1) fun i y hy => ?_⟩
    have := h (i + 1) y (by simpa using hy)
    rw [Nat.add_assoc, Nat.add_comm 1 i]
    exact this
end

/-- the slice of address A, length n, capacity c has the elements l -/
def Arr {α : Type} (k : Nat) (P : α → List Value → Prop) (S : Nat → Prop) (w : World) (A : Option Addr) (n c : Nat) (l : List α) : Prop :=
  n = l.length ∧ n ≤ c ∧ c ≤ maxLen ∧ ∃ vs, Els k P l vs ∧ Rd S w A vs
section
variable {α : Type} {k : Nat} {P P' : α → List Value → Prop} {S S' : Nat → Prop} {w w' : World} {A : Option Addr} {n c : Nat} {l : List α}
theorem Arr.nil : Arr k P S w A 0 0 [] := ⟨rfl, Nat.le_refl _, Nat.zero_le _, [], rfl, Rd.nil⟩
theorem Arr.after (h : Arr k P S w A n c l) (hb : Below w.heap.size w w') : Arr k P S w' A n c l := let ⟨h1, h2, h3, vs, h4, h5⟩ := h; ⟨h1, h2, h3, vs, h4, h5.after hb⟩
theorem Arr.below {N : Nat} (h : Arr k P S w A n c l) (hb : Below N w w') (hS : ∀ b, S b → b < w.heap.size → b < N) : Arr k P S w' A n c l := let ⟨h1, h2, h3, vs, h4, h5⟩ := h; ⟨h1, h2, h3, vs, h4, h5.below hb hS⟩
theorem Arr.grown {row : Option Nat} (h : Arr k P S w A n c l) (hg : w.grownBy w' row) (hr : ∀ b, S b → some b ≠ row) : Arr k P S w' A n c l := let ⟨h1, h2, h3, vs, h4, h5⟩ := h; ⟨h1, h2, h3, vs, h4, h5.grown hg hr⟩
theorem Arr.mono (h : Arr k P S w A n c l) (hS : ∀ b, S b → b < w.heap.size → S' b) : Arr k P S' w A n c l := let ⟨h1, h2, h3, vs, h4, h5⟩ := h; ⟨h1, h2, h3, vs, h4, h5.mono hS⟩
theorem Arr.setCell (h : Arr k P S w A n c l) {p : Addr} (hp : ∀ b, S b → b ≠ p.block) (u : Value) : Arr k P S (w.setCell p u) A n c l := let ⟨h1, h2, h3, vs, h4, h5⟩ := h; ⟨h1, h2, h3, vs, h4, h5.keep (by simp) fun b hs _ => Below.heap_setCell w p u b (hp b hs)⟩
theorem Arr.imp (h : Arr k P S w A n c l) (hi : ∀ x ∈ l, ∀ v, P x v → P' x v) : Arr k P' S w A n c l := let ⟨h1, h2, h3, vs, h4, h5⟩ := h; ⟨h1, h2, h3, vs, h4.imp hi, h5⟩
theorem Arr.len (h : Arr k P S w A n c l) : n = l.length := h.1
theorem Arr.cap (h : Arr k P S w A n c l) : n ≤ c := h.2.1
theorem Arr.capMax (h : Arr k P S w A n c l) : c ≤ 9223372036854775807 := by have := h.2.2.1; unfold maxLen at this; omega
theorem Arr.at (hk : 0 < k) (h : Arr k P S w A n c l) (hn : 0 < n) : ∃ b o, A = some ⟨b, o, none⟩ ∧ S b ∧ b < w.heap.size ∧ Hid (∀ (i : Nat) (x : α), l[i]? = some x → ∃ v, v.length = k ∧ P x v ∧ ∀ j u, v[j]? = some u → w.cell? ⟨b, o + i * k + j, none⟩ = some u) := by
  obtain ⟨h1, h2, h3, vs, h4, h5⟩ := h
  have hl := h4.length
  obtain ⟨b, o, e, hs, hb, hc⟩ := h5 (fun e => by
    rw [e] at hl
    have : 0 < l.length * k := Nat.mul_pos (by omega) hk
    simp at hl
    omega)
  exact ⟨b, o, e, hs, hb, fun i x hx =>
    let ⟨v, hv, hp, hj⟩ := h4.get i x hx
    ⟨v, hv, hp, fun j u hu => by rw [Nat.add_assoc]; exact hc _ u ((hj j (by have := (List.getElem?_eq_some_iff.1 hu).1; omega)).trans hu)⟩⟩
end

/-- a row of the call's own, from block base on, with the elements l -/
def OwnA {α : Type} (e : TypeId) (k : Nat) (P : α → List Value → Prop) (base : Nat) (w : World) (A : Option Addr) (n c : Nat) (l : List α) : Prop :=
  ∃ vs, Els k P l vs ∧ w.ownsRow base e k (.slice A n c) n vs
section
variable {α : Type} {e : TypeId} {k : Nat} {P P' : α → List Value → Prop} {base : Nat} {w w' : World} {A : Option Addr} {n c : Nat} {l : List α}
theorem OwnA.len (hk : 0 < k) (h : OwnA e k P base w A n c l) : n = l.length := by
  obtain ⟨vs, h1, h2⟩ := h
  have a := h1.length
  have b := h2.1
  rw [a] at b
  exact (Nat.eq_of_mul_eq_mul_right hk b).symm
theorem OwnA.arr (hk : 0 < k) (h : OwnA e k P base w A n c l) : Arr k P (fun b => base ≤ b ∧ A.map (·.block) = some b) w A n c l := by
  have hl := h.len hk
  obtain ⟨vs, h1, h2⟩ := h
  refine ⟨hl, ?_, ?_, vs, h1, fun hn => ?_⟩
  · rcases h2.2 with ⟨h1, h2⟩ | ⟨g, cap, cur, h1, hb, hg, h2, h3, h4, h5⟩
    · injection h1; omega
    · injection h1; omega
  · rcases h2.2 with ⟨h1, h2⟩ | ⟨g, cap, cur, h1, hb, hg, h2, h3, h4, h5⟩
    · injection h1; rename_i e1 e2 e3; rw [e3]; exact Nat.zero_le _
    · injection h1; simp_all
  · obtain ⟨b, o, ea, hb, hlt, hc⟩ := Rd.of_own h2 hn
    exact ⟨b, o, ea, ⟨hb, by rw [ea]; rfl⟩, hlt, hc⟩
theorem OwnA.nil : OwnA (α := α) e k P base w none 0 0 [] := ⟨[], rfl, World.ownsRow_nil _ _ _ _⟩
theorem OwnA.block (h : OwnA e k P base w A n c l) : ∀ b, A.map (·.block) = some b → base ≤ b ∧ b < w.heap.size := fun b hb => by
  obtain ⟨vs, _, h⟩ := h
  exact World.ownsRow.lt h b (by cases A with | none => cases hb | some a => exact hb)
theorem OwnA.imp (h : OwnA e k P base w A n c l) (hi : ∀ x ∈ l, ∀ v, P x v → P' x v) : OwnA e k P' base w A n c l := let ⟨vs, h1, h2⟩ := h; ⟨vs, h1.imp hi, h2⟩
theorem OwnA.after (h : OwnA e k P base w A n c l) (hb : Below w.heap.size w w') : OwnA e k P base w' A n c l := by
  obtain ⟨vs, h0, h⟩ := h
  refine ⟨vs, h0, h.1, ?_⟩
  rcases h.2 with h2 | ⟨g, cap, cur, e, hbg, hg, r⟩
  · exact .inl h2
  · exact .inr ⟨g, cap, cur, e, hbg, (hb.block g (Array.getElem?_eq_some_iff.1 hg).1).trans hg, r⟩
theorem OwnA.mono {base' : Nat} (h : OwnA e k P base w A n c l) (hb : base' ≤ base) : OwnA e k P base' w A n c l := by
  obtain ⟨vs, h0, h⟩ := h
  exact ⟨vs, h0, h.1, h.2.imp id fun ⟨g, cap, cur, e, hbg, r⟩ => ⟨g, cap, cur, e, Nat.le_trans hb hbg, r⟩⟩
end

/-- where append's row lies: where it lay, or in a new block -/
theorem append_where (w : World) (base : Nat) (t ty e : TypeId) (i : TypeInfo) (z : Value) (size bytes : Nat) (ht : Tryz.prog.underlying t = some (.slice e)) (hi : Tryz.prog.info? e = some i) (hz : i.zero = some z)
    (hsize : i.size = size) (hby : i.bytes = bytes) (hzs : z.cells.size = size) (hsz : 0 < size)
    (v : Value) (n : Nat) (xs : List Value) (hown : w.ownsRow base e size v n xs)
    (a : Addr) (m c : Nat) (news : List Value) (hl : news.length = m * size) (hnews : ∀ j u, news[j]? = some u → w.cell? (a.add j) = some u) (h1 : ∀ u ∈ news, u.oneCell' = true)
    (h63 : n + m ≤ maxLen) (hbytes : (n + m) * bytes ≤ 140737488355328)
    {A' : Option Addr} {n' c' : Nat} {w' : World} (hrun : (Builtin.append_ #[t, t] ty #[v, .slice (some a) m c]).run Tryz.prog w = .ok (.slice A' n' c') w') :
    ∀ b, A'.map (·.block) = some b → v.ownBlock = some b ∨ w.heap.size ≤ b := by
  intro b hb
  rcases hown.2 with ⟨rfl, rfl⟩ | ⟨g, cap, cur, rfl, hbg, hg, hnc, hcm, hcs, htake⟩
  · have hx : xs = [] := List.eq_nil_of_length_eq_zero (by simpa using hown.1)
    subst hx
    obtain ⟨v', w1, hr, ho, _, _⟩ := run_append_own w w.heap.size t ty e i z size bytes ht hi hz hsize hby hzs hsz (.slice none 0 0) 0 [] (World.ownsRow_nil _ _ _ _) a m c news hl hnews h1 h63 hbytes (Nat.le_refl _)
    rw [hr] at hrun
    injection hrun with e1 e2
    subst e1 e2
    exact .inr (World.ownsRow.lt ho b (by cases A' with | none => cases hb | some a => exact hb)).1
  · subst hsize hby
    by_cases hroom : n + m ≤ cap
    · have hfit : n * i.size + news.length ≤ cur.size := by rw [hl, hcs, ← Nat.add_mul]; exact Nat.mul_le_mul_right _ hroom
      have hr := run_append_room (P := Tryz.prog) w t ty e i ht hi g n cap cur hg a m c news hl hnews h1 hroom hfit
      rw [hr] at hrun
      injection hrun with e1 e2
      injection e1 with e1
      subst e1
      exact .inl hb
    · have holds : ∀ j u, xs[j]? = some u → w.cell? ((⟨g, 0, none⟩ : Addr).add j) = some u := hown.cells (g := g) rfl
      have hr := run_append_grow (P := Tryz.prog) w t ty e i z ht hi hz ⟨g, 0, none⟩ n cap xs hown.1 holds a m c news hl hnews (by omega) (by simp only [maxLen] at h63; omega) (growslice_fits (by omega) hbytes)
      rw [hr] at hrun
      injection hrun with e1 e2
      injection e1 with e1
      subst e1
      simp at hb
      exact .inr (by omega)

/-- what is asked of a type of slices -/
structure Ty (t e : TypeId) (k bytes : Nat) (z : Value) : Prop where
  slice : Tryz.prog.underlying t = some (.slice e)
  info : (Tryz.prog.info? e).map (fun i => (i.zero, i.size, i.bytes)) = some (some z, k, bytes)
  cells : z.cells.size = k
  pos : 0 < k

/-- append(out, x...) of elements, out a row of the call's own, x read -/
theorem wp_appA {w : World} {o : Oper} {a : Act} {K : Act → World → Prop} {Q : Exit → Act → World → Prop} {t e : TypeId} {k bytes : Nat} {z : Value} (T : Ty t e k bytes z) (s x : Operand)
    (ho : o.op = .call { callee := .builtin .append, args := #[s, x], argTypes := #[t, t] })
    {α : Type} {P P2 : α → List Value → Prop} (base : Nat) (A : Option Addr) (n c : Nat) (l : List α) (hs : a.eval s = .slice A n c) (hown : OwnA e k P base w A n c l)
    (S : Nat → Prop) (A2 : Option Addr) (m c2 : Nat) (l2 : List α) (hx : a.eval x = .slice A2 m c2) (hr : Arr k P2 S w A2 m c2 l2) (hP : ∀ x v, P2 x v → ∀ u ∈ v, u.oneCell' = true) (h21 : ∀ x ∈ l2, ∀ v, P2 x v → P x v)
    (hbytes : (n + m) * bytes ≤ 140737488355328) (h63 : n + m ≤ maxLen) (hbase : base ≤ w.heap.size)
    (h : ∀ A' n' c' w', OwnA e k P base w' A' n' c' (l ++ l2) → w.grownBy w' (A.map (·.block)) → (∀ b, A'.map (·.block) = some b → A.map (·.block) = some b ∨ w.heap.size ≤ b) → K (a.put o.dst (.slice A' n' c')) w') : o.wp Tryz.prog a w K Q := by
  obtain ⟨i0, hi, hz0, hz1, hz2⟩ := info_parts T.info
  have hown' := hown
  obtain ⟨vs, hv1, hv2⟩ := hown
  obtain ⟨e1, e2, e3, vs2, hv3, hv4⟩ := hr
  have hlen : vs2.length = m * k := by rw [hv3.length, e1]
  obtain ⟨A', c', w', hrun, h2, h3⟩ := run_append_rd (P := Tryz.prog) w base t o.type e i0 z k bytes T.slice hi hz0 hz1 hz2 T.cells T.pos (.slice A n c) n vs hv2 S A2 m c2 vs2 hlen hv4 (hv3.cells hP) hbytes h63 hbase
  have hw : ∀ b, A'.map (·.block) = some b → A.map (·.block) = some b ∨ w.heap.size ≤ b := by
    intro b hb
    have hob : Value.ownBlock (.slice A n c) = A.map (·.block) := by cases A <;> rfl
    cases A2 with
    | none =>
      have hn : vs2 = [] := by
        by_cases h : vs2 = []
        · exact h
        · obtain ⟨b, o, e', _⟩ := hv4 h
          cases e'
      subst hn
      have hm : m = 0 := by
        have : m * k = 0 := by simpa using hlen.symm
        rcases Nat.mul_eq_zero.1 this with h | h
        · exact h
        · have := T.pos; omega
      subst hm
      have hrun2 := run_append_of_nil w base t o.type e i0 k T.slice hi _ n vs hv2 c2
      rw [hrun2] at hrun
      injection hrun with e1 e2
      injection e1 with e1
      subst e1
      exact .inl hb
    | some a2 =>
      rw [← hob]
      exact append_where w base t o.type e i0 z k bytes T.slice hi hz0 hz1 hz2 T.cells T.pos _ n vs hv2 a2 m c2 vs2 hlen (hv4.cellsAt rfl) (hv3.cells hP) h63 hbytes hrun b hb
  unfold Oper.wp execOp
  simp only [ho, resolve, invoke, builtin, Sem.run_bind, Sem.run_pure, Result.andThen_ok, List.map_toArray, List.map_cons, List.map_nil, hs, hx, hrun]
  refine h A' (n + m) c' w' ⟨_, hv1.app (hv3.imp h21), h2⟩ ?_ hw
  cases A <;> exact h3
theorem wpList_appA {w : World} {ops : Array Oper} {rest : List Oper} {o : Oper} {a : Act} {Q : Exit → Act → World → Prop} (hgd : o.guard = none) {t e : TypeId} {k bytes : Nat} {z : Value} (T : Ty t e k bytes z) (s x : Operand)
    (ho : o.op = .call { callee := .builtin .append, args := #[s, x], argTypes := #[t, t] })
    {α : Type} {P P2 : α → List Value → Prop} (base : Nat) (A : Option Addr) (n c : Nat) (l : List α) (hs : a.eval s = .slice A n c) (hown : OwnA e k P base w A n c l)
    (S : Nat → Prop) (A2 : Option Addr) (m c2 : Nat) (l2 : List α) (hx : a.eval x = .slice A2 m c2) (hr : Arr k P2 S w A2 m c2 l2) (hP : ∀ x v, P2 x v → ∀ u ∈ v, u.oneCell' = true) (h21 : ∀ x ∈ l2, ∀ v, P2 x v → P x v)
    (hbytes : (n + m) * bytes ≤ 140737488355328) (h63 : n + m ≤ maxLen) (hbase : base ≤ w.heap.size)
    (h : ∀ A' n' c' w', OwnA e k P base w' A' n' c' (l ++ l2) → w.grownBy w' (A.map (·.block)) → (∀ b, A'.map (·.block) = some b → A.map (·.block) = some b ∨ w.heap.size ≤ b) → wpList Tryz.prog ops Q rest (a.put o.dst (.slice A' n' c')) w') : wpList Tryz.prog ops Q (o :: rest) a w :=
  wpList_plain hgd fun _ hK => wp_appA T s x ho base A n c l hs hown S A2 m c2 l2 hx hr hP h21 hbytes h63 hbase fun A' n' c' w' h1 h2 h3 => hK _ _ (h A' n' c' w' h1 h2 h3)
theorem step_appA {w : World} {ops : Array Oper} {o : Oper} {a : Act} {K : Act → World → Prop} {Q : Exit → Act → World → Prop} {E : Prop} (hgd : o.guard = none) {t e : TypeId} {k bytes : Nat} {z : Value} (T : Ty t e k bytes z) (s x : Operand)
    (ho : o.op = .call { callee := .builtin .append, args := #[s, x], argTypes := #[t, t] })
    {α : Type} {P P2 : α → List Value → Prop} (base : Nat) (A : Option Addr) (n c : Nat) (l : List α) (hs : a.eval s = .slice A n c) (hown : OwnA e k P base w A n c l)
    (S : Nat → Prop) (A2 : Option Addr) (m c2 : Nat) (l2 : List α) (hx : a.eval x = .slice A2 m c2) (hr : Arr k P2 S w A2 m c2 l2) (hP : ∀ x v, P2 x v → ∀ u ∈ v, u.oneCell' = true) (h21 : ∀ x ∈ l2, ∀ v, P2 x v → P x v)
    (hbytes : (n + m) * bytes ≤ 140737488355328) (h63 : n + m ≤ maxLen) (hbase : base ≤ w.heap.size)
    (h : ∀ A' n' c' w', OwnA e k P base w' A' n' c' (l ++ l2) → w.grownBy w' (A.map (·.block)) → (∀ b, A'.map (·.block) = some b → A.map (·.block) = some b ∨ w.heap.size ≤ b) → K (a.put o.dst (.slice A' n' c')) w') :
    if Region.wanted o (yielded ops a.tmps) = true then Oper.wp Tryz.prog o a w K Q else E := by
  have hw : Region.wanted o (yielded ops a.tmps) = true := by simp [Region.wanted, hgd]
  rw [if_pos hw]
  exact wp_appA T s x ho base A n c l hs hown S A2 m c2 l2 hx hr hP h21 hbytes h63 hbase h

/-- the cells of one element in a new block -/
theorem arr_lit {α : Type} {k : Nat} {P : α → List Value → Prop} {e : TypeId} (w : World) (vs : Array Value) (x : α) (hk : vs.size = k) (hp : P x vs.toList) {g : Nat} (hg : g = w.heap.size) : Arr k P (fun b => b = w.heap.size) (w.alloc (.cells vs e)) (some ⟨g, 0, none⟩) 1 1 [x] := by
  subst hg
  refine ⟨rfl, Nat.le_refl _, by decide, vs.toList, Els.one (by simpa using hk) hp, fun _ => ⟨w.heap.size, 0, rfl, rfl, by simp, fun j u hu => ?_⟩⟩
  rw [Nat.zero_add]
  have e1 : (w.alloc (.cells vs e)).heap[w.heap.size]? = some (.cells vs e) := heap_alloc_new w _
  unfold World.cell?
  rw [e1]
  simpa using hu
end Go.Proofs.Sb

/- More words for rows of the call's own: what a growing row, a store elsewhere, leave. No conditions. -/
namespace Go.Proofs.Sb
open Go.RowKit _root_.Sb

section
variable {w w' : World} {row : Option Nat} {b o : Nat}
theorem gfroz (hg : w.grownBy w' row) (hr : some b ≠ row) (hlt : b < w.heap.size) {x : Bool} (h : w.frozen? ⟨b, o, none⟩ = x) : w'.frozen? ⟨b, o, none⟩ = x :=
  (World.frozen?_of_block (a := ⟨b, o, none⟩) (hg.block b hlt hr)).trans h
theorem kfroz {W : World} (hb : Below W.heap.size W w) (hlt : b < W.heap.size) {x : Bool} (h : W.frozen? ⟨b, o, none⟩ = x) : w.frozen? ⟨b, o, none⟩ = x := (hb.frozen (p := ⟨b, o, none⟩) hlt).trans h
theorem grow_setCell (w : World) (b i : Nat) (v : Value) : w.grownBy (w.setCell ⟨b, i, none⟩ v) (some b) :=
  have h := Below.setCell (B := b) (Below.refl b w) (p := ⟨b, i, none⟩) (Nat.le_refl _) v
  ⟨h.os, h.tape, h.output, h.size, fun k _ hr => Below.heap_setCell w ⟨b, i, none⟩ v k (fun e => hr (by rw [e]))⟩
theorem grow_of_below {row : Option Nat} (h : Below w.heap.size w w') : w.grownBy w' row := ⟨h.os, h.tape, h.output, h.size, fun k hk _ => h.block k hk⟩
/-- one step behind another: what turns is the row, or lies behind the beginning -/
theorem grow_seq {a b c : World} {row row' : Option Nat} (h : a.grownBy b row) (k : b.grownBy c row') (hr : ∀ j, row' = some j → a.heap.size ≤ j ∨ row = some j) : a.grownBy c row :=
  ⟨k.os.trans h.os, k.tape.trans h.tape, k.output.trans h.output, Nat.le_trans h.size k.size, fun i hi hrow =>
    (k.block i (Nat.lt_of_lt_of_le hi h.size) (fun e => by rcases hr i e.symm with h1 | h1; omega; exact hrow h1.symm)).trans (h.block i hi hrow)⟩
theorem below_grow {N : Nat} {a : World} (h : Below N a w) (hg : w.grownBy w' row) (hB : N ≤ w.heap.size) (hr : ∀ k, row = some k → N ≤ k) : Below N a w' := Below.grown h hg hB hr
end
section
variable {α : Type} {e : TypeId} {k : Nat} {P P' : α → List Value → Prop} {base : Nat} {w w' : World} {A : Option Addr} {n c : Nat} {l : List α}
theorem OwnA.grown {row : Option Nat} (h : OwnA e k P base w A n c l) (hg : w.grownBy w' row) (hr : ∀ b, A.map (·.block) = some b → some b ≠ row) : OwnA e k P base w' A n c l := by
  obtain ⟨vs, h0, h⟩ := h
  refine ⟨vs, h0, h.1, ?_⟩
  rcases h.2 with h2 | ⟨g, cap, cur, e, hbg, hgg, r⟩
  · exact .inl h2
  · exact .inr ⟨g, cap, cur, e, hbg, (hg.block g (Array.getElem?_eq_some_iff.1 hgg).1 (hr g (by injection e with e1; rw [e1]; rfl))).trans hgg, r⟩
end
theorem Own.grown {base : Nat} {w w' : World} {A : Option Addr} {n c : Nat} {bs : B} {row : Option Nat} (h : Own base w A n c bs) (hg : w.grownBy w' row) (hr : ∀ b, A.map (·.block) = some b → some b ≠ row) : Own base w' A n c bs := by
  refine ⟨h.1, ?_⟩
  rcases h.2 with h2 | ⟨g, cap, cur, e, hbg, hgg, r⟩
  · exact .inl h2
  · exact .inr ⟨g, cap, cur, e, hbg, (hg.block g (Array.getElem?_eq_some_iff.1 hgg).1 (hr g (by injection e with e1; rw [e1]; rfl))).trans hgg, r⟩

/-! append of bytes, with the place where its row lies. -/
def byteP (b : UInt8) (v : List Value) : Prop := v = [.int .u8 (b.toNat : Int)]
theorem els_bv : ∀ bs : B, Els 1 byteP bs (bv bs)
  | [] => rfl
  | b :: bs => ⟨[_], bv bs, rfl, rfl, rfl, els_bv bs⟩
theorem bv_els : ∀ {bs : B} {vs : List Value}, Els 1 byteP bs vs → vs = bv bs
  | [], _, h => h
  | b :: bs, _, ⟨v, r, e, _, hp, h⟩ => by rw [e, hp, bv_els h]; rfl
theorem tyU8 : Ty 25 5 1 1 (.int .u8 0) := ⟨Tryz.underlying25, by kernel_rfl, rfl, by decide⟩
section
variable {base : Nat} {w : World} {A : Option Addr} {n c : Nat} {bs : B}
theorem Own.toA (h : Own base w A n c bs) : OwnA 5 1 byteP base w A n c bs := ⟨bv bs, els_bv bs, h⟩
theorem Own.ofA (h : OwnA 5 1 byteP base w A n c bs) : Own base w A n c bs := by
  obtain ⟨vs, h1, h2⟩ := h
  rw [bv_els h1] at h2
  exact h2
/-- a row of the call's own reads as its bytes, in its one block -/
theorem Own.slb (h : Own base w A n c bs) : Sl (fun b => base ≤ b ∧ A.map (·.block) = some b) w A n c bs := by
  obtain ⟨h1, h2, h3, vs, h4, h5⟩ := h.toA.arr (by decide)
  rw [bv_els h4] at h5
  exact ⟨h1, h2, h3, h5⟩
end
theorem byteP_one (b : UInt8) (v : List Value) (h : byteP b v) : ∀ u ∈ v, u.oneCell' = true := by
  rw [h]
  intro u hu
  simp at hu
  rw [hu]
  rfl
theorem Sl.arr {S : Nat → Prop} {w : World} {A : Option Addr} {n c : Nat} {bs : B} (h : Sl S w A n c bs) : Arr 1 byteP S w A n c bs := ⟨h.1, h.2.1, h.2.2.1, bv bs, els_bv bs, h.2.2.2⟩
theorem wpList_appw {w : World} {ops : Array Oper} {rest : List Oper} {o : Oper} {a : Act} {Q : Exit → Act → World → Prop} (hgd : o.guard = none) (s x : Operand)
    (ho : o.op = .call { callee := .builtin .append, args := #[s, x], argTypes := #[25, 25] })
    (base : Nat) (A : Option Addr) (n c : Nat) (bs : B) (hs : a.eval s = .slice A n c) (hown : Own base w A n c bs)
    (S : Nat → Prop) (A2 : Option Addr) (m c2 : Nat) (cs : B) (hx : a.eval x = .slice A2 m c2) (hr : Sl S w A2 m c2 cs)
    (hbytes : bs.length + cs.length ≤ 140737488355328) (hbase : base ≤ w.heap.size)
    (h : ∀ A' n' c' w', Own base w' A' n' c' (bs ++ cs) → w.grownBy w' (A.map (·.block)) → (∀ b, A'.map (·.block) = some b → A.map (·.block) = some b ∨ w.heap.size ≤ b) → wpList Tryz.prog ops Q rest (a.put o.dst (.slice A' n' c')) w') : wpList Tryz.prog ops Q (o :: rest) a w := by
  have h1 := hown.len
  have h2 := hr.len
  exact wpList_appA hgd tyU8 s x ho base A n c bs hs hown.toA S A2 m c2 cs hx hr.arr byteP_one (fun _ _ _ h => h) (by omega) (by unfold maxLen; omega) hbase fun A' n' c' w' g1 g2 g3 => h A' n' c' w' (Own.ofA g1) g2 g3
theorem step_appw {w : World} {ops : Array Oper} {o : Oper} {a : Act} {K : Act → World → Prop} {Q : Exit → Act → World → Prop} {E : Prop} (hgd : o.guard = none) (s x : Operand)
    (ho : o.op = .call { callee := .builtin .append, args := #[s, x], argTypes := #[25, 25] })
    (base : Nat) (A : Option Addr) (n c : Nat) (bs : B) (hs : a.eval s = .slice A n c) (hown : Own base w A n c bs)
    (S : Nat → Prop) (A2 : Option Addr) (m c2 : Nat) (cs : B) (hx : a.eval x = .slice A2 m c2) (hr : Sl S w A2 m c2 cs)
    (hbytes : bs.length + cs.length ≤ 140737488355328) (hbase : base ≤ w.heap.size)
    (h : ∀ A' n' c' w', Own base w' A' n' c' (bs ++ cs) → w.grownBy w' (A.map (·.block)) → (∀ b, A'.map (·.block) = some b → A.map (·.block) = some b ∨ w.heap.size ≤ b) → K (a.put o.dst (.slice A' n' c')) w') :
    if Region.wanted o (yielded ops a.tmps) = true then Oper.wp Tryz.prog o a w K Q else E := by
  have h1 := hown.len
  have h2 := hr.len
  exact step_appA hgd tyU8 s x ho base A n c bs hs hown.toA S A2 m c2 cs hx hr.arr byteP_one (fun _ _ _ h => h) (by omega) (by unfold maxLen; omega) hbase fun A' n' c' w' g1 g2 g3 => h A' n' c' w' (Own.ofA g1) g2 g3
/-- the cells of elements in a new block -/
theorem arr_new {α : Type} {k : Nat} {P : α → List Value → Prop} {e : TypeId} (w : World) (vs : Array Value) (l : List α) (n : Nat) (hl : Els k P l vs.toList) (hn : n = l.length) (hm : n ≤ maxLen) {g : Nat} (hg : g = w.heap.size) : Arr k P (fun b => b = w.heap.size) (w.alloc (.cells vs e)) (some ⟨g, 0, none⟩) n n l := by
  subst hg
  refine ⟨hn, Nat.le_refl _, hm, vs.toList, hl, fun _ => ⟨w.heap.size, 0, rfl, rfl, by simp, fun j u hu => ?_⟩⟩
  rw [Nat.zero_add]
  have e1 : (w.alloc (.cells vs e)).heap[w.heap.size]? = some (.cells vs e) := heap_alloc_new w _
  unfold World.cell?
  rw [e1]
  simpa using hu

end Go.Proofs.Sb
