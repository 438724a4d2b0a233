/- Rows of bytes that were made of a string: append onto them. Conditions: lengths up to 2^47. -/
import Derived.Test.YtfeeeighafflnaaGreatArr
import Derived.ArgAppend
import Derived.Laws.IdiomStrings
set_option linter.unusedVariables false
set_option linter.unusedSimpArgs false
namespace Go.Proofs.Sb
open Go.RowKit _root_.Sb

/-- a row of bytes of the call's own, told by its cells -/
structure OwnG (base : Nat) (w : World) (A : Option Addr) (n c : Nat) (bs : B) : Prop where
  len : n = bs.length
  cap : n ≤ c
  capMax : c ≤ maxLen
  row : ∃ g, A = some ⟨g, 0, none⟩ ∧ base ≤ g ∧ g < w.heap.size ∧ (∀ j u, (bv bs)[j]? = some u → w.cell? ⟨g, j, none⟩ = some u) ∧ ∀ j, j < c → (w.cell? ⟨g, j, none⟩).isSome = true ∧ w.frozen? ⟨g, j, none⟩ = false
/-- in one way or in the other -/
def OwnU (base : Nat) (w : World) (A : Option Addr) (n c : Nat) (bs : B) : Prop := Own base w A n c bs ∨ OwnG base w A n c bs
section
variable {base : Nat} {w w' : World} {A : Option Addr} {n c : Nat} {bs : B}
theorem OwnG.sl (h : OwnG base w A n c bs) : Sl (fun b => base ≤ b) w A n c bs := by
  obtain ⟨g, hA, hb, hg, hc, _⟩ := h.row
  exact ⟨h.len, h.cap, h.capMax, fun _ => ⟨g, 0, hA, hb, hg, fun j u hu => by rw [Nat.zero_add]; exact hc j u hu⟩⟩
theorem OwnU.sl (h : OwnU base w A n c bs) : Sl (fun b => base ≤ b) w A n c bs := by
  rcases h with h | h
  · exact h.sl
  · exact h.sl
theorem OwnU.len (h : OwnU base w A n c bs) : n = bs.length := by
  rcases h with h | h
  · exact h.len
  · exact h.len
theorem OwnG.after (h : OwnG base w A n c bs) (hb : Below w.heap.size w w') : OwnG base w' A n c bs := by
  obtain ⟨g, hA, hg1, hg, hc, hf⟩ := h.row
  exact ⟨h.len, h.cap, h.capMax, g, hA, hg1, Nat.lt_of_lt_of_le hg hb.size, fun j u hu => (World.cell?_of_block (hb.block g hg)).trans (hc j u hu), fun j hj => ⟨by rw [World.cell?_of_block (hb.block g hg)]; exact (hf j hj).1, (World.frozen?_of_block (a := ⟨g, j, none⟩) (hb.block g hg)).trans (hf j hj).2⟩⟩
/-- '[]byte(s)' -/
theorem conv_own (w : World) (bs : B) (hm : bs.length ≤ 140737488355328) : ∃ c W, (convert 9 25 (.string (str bs))).run Tryz.prog w = .ok (.slice (some ⟨w.heap.size, 0, none⟩) bs.length c) W ∧ OwnG w.heap.size W (some ⟨w.heap.size, 0, none⟩) bs.length c bs ∧ Below w.heap.size w W := by
  have hrun := run_bytes_of_string (P := Tryz.prog) w 9 25 5 (str bs) Tryz.underlying9 Tryz.underlying25 Tryz.underlying5
  have hsz : (str bs).size = bs.length := by simp
  rw [hsz] at hrun
  have hge := grownCap_ge w bs.length 0 5
  have hmx := grownCap_le_maxLen w bs.length 0 5 (by unfold maxLen; omega)
  generalize grownCap w bs.length 0 5 = c at hrun hge hmx
  have hrow : (bytesRow (str bs) c).toList = bv bs ++ List.replicate (c - bs.length) (.int .u8 0) := by
    unfold bytesRow
    rw [hsz]
    simp [str, bv]
  have hrs : (bytesRow (str bs) c).size = c := by
    rw [← Array.length_toList, hrow, List.length_append, bv_length, List.length_replicate]
    omega
  rw [hrs] at hrun
  have hg : (w.drew.alloc (.cells (bytesRow (str bs) c) 5 (c, c + 1))).heap[w.heap.size]? = some (.cells (bytesRow (str bs) c) 5 (c, c + 1)) := heap_alloc_new w.drew _
  refine ⟨c, _, hrun, ⟨rfl, hge, hmx, w.heap.size, rfl, Nat.le_refl _, (Array.getElem?_eq_some_iff.1 hg).1, fun j u hu => ?_, fun j hj => ⟨?_, ?_⟩⟩, (by repeat (first | exact Below.refl _ _ | assumption | refine Below.drew ?_ | refine below_drewN ?_ _ | refine Below.alloc ?_ (by simp) _ | refine Below.setCell ?_ (by simp) _))⟩
  · rw [cell_of_row _ _ j _ _ _ hg, ← Array.getElem?_toList, hrow, List.getElem?_append_left (List.getElem?_eq_some_iff.1 hu).1]
    exact hu
  · rw [cell_of_row _ _ j _ _ _ hg, Array.getElem?_eq_getElem (by omega)]
    rfl
  · simp only [World.frozen?, hg, Bool.and_eq_false_iff, decide_eq_false_iff_not]
    left
    omega
theorem below_cells {B g : Nat} (hg : B ≤ g) : ∀ (vs : List Value) (o : Nat) (w : World), Below B w (w.setCells g o vs)
  | [], _, w => Below.refl _ _
  | v :: r, o, w => (Below.setCell (B := B) (Below.refl B w) (p := ⟨g, o, none⟩) hg v).trans (below_cells hg r (o + 1) _)
theorem wp_appU {w : World} {o : Oper} {a : Act} {K : Act → World → Prop} {Q : Exit → Act → World → Prop} (s x : Operand)
    (ho : o.op = .call { callee := .builtin .append, args := #[s, x], argTypes := #[25, 25] })
    (base : Nat) (A : Option Addr) (n c : Nat) (bs : B) (hs : a.eval s = .slice A n c) (hown : OwnG base w A n c bs)
    (S : Nat → Prop) (A2 : Option Addr) (m c2 : Nat) (cs : B) (hx : a.eval x = .slice A2 m c2) (hr : Sl S w A2 m c2 cs) (hm : 0 < m)
    (hbytes : bs.length + cs.length ≤ 140737488355328) (hbase : base ≤ w.heap.size)
    (h : ∀ A' n' c' w', OwnU base w' A' n' c' (bs ++ cs) → Below base w w' → K (a.put o.dst (.slice A' n' c')) w') : o.wp Tryz.prog a w K Q := by
  obtain ⟨i0, hi, hz0, hz1, hz2⟩ := info_parts tyU8.info
  obtain ⟨g, rfl, hb, hg, hc, hf⟩ := hown.row
  have hlen := hown.len
  have hl2 := hr.len
  obtain ⟨b2, off2, rfl, hS2, hb2, hc2⟩ := hr.2.2.2 (bv_ne cs (by omega))
  have hnews : ∀ j u, (bv cs)[j]? = some u → w.cell? ((⟨b2, off2, none⟩ : Addr).add j) = some u := fun j u hu => by
    rw [Addr.add_lit]
    exact hc2 j u hu
  have key : ∀ A' n' c' w', (Builtin.append_ #[25, 25] o.type #[.slice (some ⟨g, 0, none⟩) n c, .slice (some ⟨b2, off2, none⟩) m c2]).run Tryz.prog w = .ok (.slice A' n' c') w' → OwnU base w' A' n' c' (bs ++ cs) → Below base w w' → o.wp Tryz.prog a w K Q := by
    intro A' n' c' w' hrun h2 h3
    unfold Oper.wp execOp
    simp only [ho, resolve, invoke, builtin, Sem.run_bind, Sem.run_pure, Result.andThen_ok, List.map_toArray, List.map_cons, List.map_nil, hs, hx, hrun]
    exact h A' n' c' w' h2 h3
  by_cases hroom : n + m ≤ c
  · have hl : (bv cs).length = m * i0.size := by rw [bv_length, hz1, hl2]; omega
    have e0 : 0 + n * i0.size = n := by rw [hz1]; omega
    have hr2 := run_append_room_cells (P := Tryz.prog) w 25 o.type 5 i0 tyU8.slice hi g 0 n c ⟨b2, off2, none⟩ m c2 (bv cs) hl hnews (bv_one cs) hroom (fun j hj => by rw [e0]; exact (hf (n + j) (by rw [bv_length] at hj; omega)).1) (fun j hj => by rw [e0]; exact (hf (n + j) (by rw [bv_length] at hj; omega)).2)
    rw [e0] at hr2
    have hbl : Below base w (w.setCells g n (bv cs)) := below_cells hb (bv cs) n w
    refine key _ _ _ _ hr2 (.inr ⟨by rw [List.length_append]; omega, hroom, hown.capMax, g, rfl, hb, Nat.lt_of_lt_of_le hg hbl.size, fun j u hu => ?_, fun j hj => ⟨?_, by rw [World.frozen?_setCells]; exact (hf j hj).2⟩⟩) hbl
    · rw [bv_append] at hu
      by_cases hj : j < n
      · rw [World.cell?_setCells_out g _ _ _ _ (fun _ _ => .inl hj)]
        rw [List.getElem?_append_left (by rw [bv_length]; omega)] at hu
        exact hc j u hu
      · rw [List.getElem?_append_right (by rw [bv_length]; omega), bv_length, ← hlen] at hu
        obtain ⟨hj2, rfl⟩ := List.getElem?_eq_some_iff.1 hu
        have := World.cell?_setCells_in g (bv cs) n w (fun i hi => (hf (n + i) (by rw [bv_length] at hi; omega)).1) (j - n) hj2
        rwa [show n + (j - n) = j by omega] at this
    · by_cases hj2 : n ≤ j ∧ j < n + m
      · have := World.cell?_setCells_in g (bv cs) n w (fun i hi => (hf (n + i) (by rw [bv_length] at hi; omega)).1) (j - n) (by rw [bv_length]; omega)
        rw [show n + (j - n) = j by omega] at this
        rw [this]
        rfl
      · rw [World.cell?_setCells_out g _ _ _ _ (fun _ _ => by rw [bv_length]; show j < n ∨ n + cs.length ≤ j; omega)]
        exact (hf j hj).1
  · obtain ⟨v', w', hr2, ho2, hgr⟩ := run_append_arg_grows (P := Tryz.prog) w 25 o.type 5 i0 (.int .u8 0) 1 1 tyU8.slice hi hz0 hz1 hz2 tyU8.cells (by decide) ⟨g, 0, none⟩ n c (bv bs) (by rw [bv_length]; omega) (fun j u hu => by rw [Addr.add_lit, Nat.zero_add]; exact hc j u hu) ⟨b2, off2, none⟩ m c2 (bv cs) (by rw [bv_length]; omega) hnews (by omega) (by unfold maxLen; omega) (by omega)
    have ho3 := ho2
    rcases ho2.2 with ⟨rfl, h0⟩ | ⟨g', cap, cur, rfl, _⟩
    · omega
    · have hbl : Below base w w' := below_grow (Below.refl _ _) hgr hbase (fun k hk => by cases hk)
      refine key _ _ _ _ hr2 (.inl ?_) hbl
      rw [← bv_append] at ho3
      exact Own.mono (base := w.heap.size) ho3 hbase
theorem wpList_appU {w : World} {ops : Array Oper} {rest : List Oper} {o : Oper} {a : Act} {Q : Exit → Act → World → Prop} (hgd : o.guard = none) (s x : Operand)
    (ho : o.op = .call { callee := .builtin .append, args := #[s, x], argTypes := #[25, 25] })
    (base : Nat) (A : Option Addr) (n c : Nat) (bs : B) (hs : a.eval s = .slice A n c) (hown : OwnU base w A n c bs)
    (S : Nat → Prop) (A2 : Option Addr) (m c2 : Nat) (cs : B) (hx : a.eval x = .slice A2 m c2) (hr : Sl S w A2 m c2 cs) (hm : 0 < m)
    (hbytes : bs.length + cs.length ≤ 140737488355328) (hbase : base ≤ w.heap.size)
    (h : ∀ A' n' c' w', OwnU base w' A' n' c' (bs ++ cs) → Below base w w' → wpList Tryz.prog ops Q rest (a.put o.dst (.slice A' n' c')) w') : wpList Tryz.prog ops Q (o :: rest) a w := by
  rcases hown with hown | hown
  · exact wpList_appw hgd s x ho base A n c bs hs hown S A2 m c2 cs hx hr hbytes hbase fun A' n' c' w' g1 g2 _ => h A' n' c' w' (.inl g1) (below_grow (Below.refl _ _) g2 hbase (fun k hk => (hown.block k hk).1))
  · exact wpList_plain hgd fun _ hK => wp_appU s x ho base A n c bs hs hown S A2 m c2 cs hx hr hm hbytes hbase fun A' n' c' w' h1 h2 => hK _ _ (h A' n' c' w' h1 h2)
end
end Go.Proofs.Sb
