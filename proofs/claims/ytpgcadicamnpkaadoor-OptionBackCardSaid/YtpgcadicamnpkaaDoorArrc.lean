/- append of bytes to a row of the call's own: the row as it was before still reads as it did. No conditions. -/
import Derived.Test.YtpgcadicamnpkaaDoorArrb
set_option linter.unusedVariables false
set_option linter.unusedSimpArgs false
namespace Go.Proofs.Sb
open Go.RowKit _root_.Sb

/-- append's row lies where it lay, or nothing that was there has turned -/
theorem append_stays (w : World) (base : Nat) (t ty e : TypeId) (i : TypeInfo) (z : Value) (size bytes : Nat) (ht : Tryd.prog.underlying t = some (.slice e)) (hi : Tryd.prog.info? e = some i) (hz : i.zero = some z)
    (hsize : i.size = size) (hby : i.bytes = bytes) (hzs : z.cells.size = size) (hsz : 0 < size)
    (v : Value) (n : Nat) (xs : List Value) (hown : w.ownsRow base e size v n xs)
    (a : Addr) (m c : Nat) (news : List Value) (hl : news.length = m * size) (hnews : ∀ j u, news[j]? = some u → w.cell? (a.add j) = some u) (h1 : ∀ u ∈ news, u.oneCell' = true)
    (h63 : n + m ≤ maxLen) (hbytes : (n + m) * bytes ≤ 140737488355328)
    {A' : Option Addr} {n' c' : Nat} {w' : World} (hrun : (Builtin.append_ #[t, t] ty #[v, .slice (some a) m c]).run Tryd.prog w = .ok (.slice A' n' c') w') :
    A'.map (·.block) = v.ownBlock ∨ w.grownBy w' none := by
  rcases hown.2 with ⟨rfl, rfl⟩ | ⟨g, cap, cur, rfl, hbg, hg, hnc, hcm, hcs, htake⟩
  · have hx : xs = [] := List.eq_nil_of_length_eq_zero (by simpa using hown.1)
    subst hx
    obtain ⟨v', w1, hr, ho, hg, _⟩ := run_append_own w w.heap.size t ty e i z size bytes ht hi hz hsize hby hzs hsz (.slice none 0 0) 0 [] (World.ownsRow_nil _ _ _ _) a m c news hl hnews h1 h63 hbytes (Nat.le_refl _)
    rw [hr] at hrun
    injection hrun with e1 e2
    subst e1 e2
    exact .inr hg
  · subst hsize hby
    by_cases hroom : n + m ≤ cap
    · have hfit : n * i.size + news.length ≤ cur.size := by rw [hl, hcs, ← Nat.add_mul]; exact Nat.mul_le_mul_right _ hroom
      have hr := run_append_room (P := Tryd.prog) w t ty e i ht hi g n cap cur hg a m c news hl hnews h1 hroom hfit
      rw [hr] at hrun
      injection hrun with e1 e2
      injection e1 with e1
      subst e1
      exact .inl rfl
    · have holds : ∀ j u, xs[j]? = some u → w.cell? ((⟨g, 0, none⟩ : Addr).add j) = some u := hown.cells (g := g) rfl
      have hr := run_append_grow (P := Tryd.prog) w t ty e i z ht hi hz ⟨g, 0, none⟩ n cap xs hown.1 holds a m c news hl hnews (by omega) (by simp only [maxLen] at h63; omega) (growslice_fits (by omega) hbytes)
      rw [hr] at hrun
      injection hrun with e1 e2
      subst e2
      exact .inr (grow_of_below ((Below.refl _ _).drew.alloc (by simp) _))
theorem Sl.of_row {base : Nat} {w w' : World} {A A' : Option Addr} {n c n' c' : Nat} {bs cs : B} (h : Own base w A n c bs) (h' : Own base w' A' n' c' (bs ++ cs)) (hA : A'.map (·.block) = A.map (·.block)) : Sl (fun b => base ≤ b) w' A n c bs := by
  have hs := h.sl
  refine ⟨hs.1, hs.2.1, hs.2.2.1, fun hn => ?_⟩
  have h1 := h'.sl.2.2.2
  obtain ⟨b, o, e1, h2, h3, h4⟩ := h1 (by intro e; apply hn; simp [bv] at e ⊢; exact e.1)
  rcases h.2 with h5 | ⟨g, cap, cur, e5, _⟩
  · have h6 := h.len
    have h7 := h5.2
    exfalso
    apply hn
    have : bs = [] := List.eq_nil_of_length_eq_zero (by omega)
    rw [this]; rfl
  · injection e5 with e5
    rcases h'.2 with h8 | ⟨g2, cap2, cur2, e8, _⟩
    · have := h8.1
      rw [e1] at this
      injection this with this
      cases this
    · injection e8 with e8
      subst e5
      rw [e8] at e1 hA
      injection e1 with e1
      injection e1 with e9 e10
      simp at hA
      subst e9 e10 hA
      refine ⟨g2, 0, rfl, h2, h3, fun j u hu => h4 j u ?_⟩
      rw [show bv (bs ++ cs) = bv bs ++ bv cs by simp [bv]]
      rw [List.getElem?_append_left (List.getElem?_eq_some_iff.1 hu).1]
      exact hu
/-- append of bytes; the row as it was before reads as it did -/
theorem wpList_appk {w : World} {ops : Array Oper} {rest : List Oper} {o : Oper} {a : Act} {Q : Exit → Act → World → Prop} (hgd : o.guard = none) (s x : Operand)
    (ho : o.op = .call { callee := .builtin .append, args := #[s, x], argTypes := #[29, 29] })
    (base : Nat) (A : Option Addr) (n c : Nat) (bs : B) (hs : a.eval s = .slice A n c) (hown : Own base w A n c bs)
    (S : Nat → Prop) (A2 : Option Addr) (m c2 : Nat) (cs : B) (hx : a.eval x = .slice A2 m c2) (hr : Sl S w A2 m c2 cs)
    (hbytes : bs.length + cs.length ≤ 140737488355328) (hbase : base ≤ w.heap.size)
    (h : ∀ A' n' c' w', Own base w' A' n' c' (bs ++ cs) → w.grownBy w' (A.map (·.block)) → Sl (fun b => base ≤ b) w' A n c bs → wpList Tryd.prog ops Q rest (a.put o.dst (.slice A' n' c')) w') : wpList Tryd.prog ops Q (o :: rest) a w := by
  have h1 := hown.len
  have h2 := hr.len
  have T := tyU8
  obtain ⟨i0, hi, hz0, hz1, hz2⟩ := info_parts T.info
  have hlen : (bv cs).length = m * 1 := by rw [bv_length]; omega
  have hnews1 : ∀ u ∈ bv cs, u.oneCell' = true := (els_bv cs).cells byteP_one
  refine wpList_plain hgd fun K hK => ?_
  obtain ⟨A', c', w', hrun, h3, h4⟩ := run_append_rd (P := Tryd.prog) w base 29 o.type 5 i0 (.int .u8 0) 1 1 T.slice hi hz0 hz1 hz2 T.cells T.pos (.slice A n c) n (bv bs) hown S A2 m c2 (bv cs) hlen hr.2.2.2 hnews1 (by omega) (by unfold maxLen; omega) hbase
  have ho' : Own base w' A' (n + m) c' (bs ++ cs) := by
    unfold Own
    rw [show bv (bs ++ cs) = bv bs ++ bv cs by simp [bv]]
    exact h3
  have hob : Value.ownBlock (.slice A n c) = A.map (·.block) := by cases A <;> rfl
  rw [hob] at h4
  have hst : Sl (fun b => base ≤ b) w' A n c bs := by
    cases A2 with
    | none =>
      have hn : m = 0 := by
        rcases Nat.eq_zero_or_pos m with h | h
        · exact h
        · exfalso
          obtain ⟨b, o, e', _⟩ := hr.2.2.2 (by intro e; rw [e] at hlen; simp at hlen; omega)
          cases e'
      subst hn
      have hrun2 := run_append_of_nil (P := Tryd.prog) w base 29 o.type 5 i0 1 T.slice hi _ n (bv bs) hown c2
      rw [hrun2] at hrun
      injection hrun with e1 e2
      subst e2
      exact hown.sl
    | some a2 =>
      rcases append_stays w base 29 o.type 5 i0 (.int .u8 0) 1 1 T.slice hi hz0 hz1 hz2 T.cells T.pos _ n (bv bs) hown a2 m c2 (bv cs) hlen (Rd.cellsAt hr.2.2.2 rfl) hnews1 (by unfold maxLen; omega) (by omega) hrun with h5 | h5
      · rw [hob] at h5
        exact Sl.of_row hown ho' h5
      · exact hown.sl.grown h5 fun b _ e => by cases e
  unfold Oper.wp execOp
  simp only [ho, resolve, invoke, builtin, Sem.run_bind, Sem.run_pure, Result.andThen_ok, List.map_toArray, List.map_cons, List.map_nil, hs, hx, hrun]
  exact hK _ _ (h A' (n + m) c' w' ho' h4 hst)
end Go.Proofs.Sb
