/- Types of values as arguments, opened; the table of names out of the row's list. No conditions. -/
import Derived.Test.YtenhgcgdhaegaaaDoorArgsd
import Derived.Test.YtenhgcgdhaegaaaDoorArgse
import Derived.Test.YtenhgcgdhaegaaaDoorOpts
import Derived.MakeChecks
import Derived.LaidLaws
set_option linter.unusedVariables false
set_option linter.unusedSimpArgs false
namespace Go.Proofs.Sb
open Go.RowKit _root_.Sb
open Go.ChangeShapes Go.WideShapes Go.ChangeAt
open Go.Proofs.YtenhgcgdhaegaaaDoor
open Go.Proofs.YtenhgcgdhaegaaaDoor.Rows (uptoBulk uptoBulkAll uptoSmall)
set_option maxRecDepth 100000

theorem Els.common {S : Nat → Prop} {W : World} {M : Nat} : ∀ {l : List Opt} {vs : List Value}, Els 5 (fun o v => ∃ d, optD S W M d o v) l vs → ∃ D, Els 5 (optD S W M D) l vs
  | [], vs, h => ⟨0, h⟩
  | x :: l, vs, ⟨v, r, h1, h2, ⟨d, hd⟩, h⟩ => by
    obtain ⟨D, hD⟩ := Els.common h
    exact ⟨max d D, v, r, h1, h2, hd.le (Nat.le_max_left _ _), hD.imp fun _ _ _ h => h.le (Nat.le_max_right _ _)⟩
theorem Arr.common {S T : Nat → Prop} {W : World} {M : Nat} {A : Option Addr} {n c : Nat} {l : List Opt} (h : Arr 5 (fun o v => ∃ d, optD S W M d o v) T W A n c l) : ∃ D, Arr 5 (optD S W M D) T W A n c l := by
  obtain ⟨h1, h2, h3, vs, h4, h5⟩ := h
  obtain ⟨D, hD⟩ := h4.common
  exact ⟨D, h1, h2, h3, vs, hD, h5⟩
section
variable {H : Type} {enc : TypeId × Value → H} {W : World} {base : Nat} {sp : Nat → Bool}
theorem opt_eltQ {M : Nat} (Q : DataW H → Prop) (hs : ∀ l : List UInt8, Q (.lit (.string l)) → l.length ≤ 9223372036854775807 → l.length ≤ M) (hagg : ∀ ps, Q (.agg ps) → ∀ d ∈ ps, Q d) (hsl : ∀ e s, Q (.slice e s) → ∀ d ∈ e, Q d) :
    ∀ (N : Nat) {n : Nat} {cs : List Value} {x : DataW H × List MemPlace}, SizeOf.sizeOf x.1 < N → Q x.1 → DataW.trod enc Tryd.prog W base sp true n 62 cs = some x → ∃ d o, optD (fun _ => True) W M d o cs
  | 0, _, _, _, hN, _, _ => absurd hN (by omega)
  | N + 1, n, cs, x, hN, hQ, h => by
    obtain ⟨xs, m, _, hx, hl, h2, h3⟩ := DataW.trod_struct Tryd.underlying62 h
    have hl5 : cs.length = 5 := hl.trans (by kernel_rfl)
    have hx5 : xs.length = 5 := h2
    match xs, hx5 with
    | [x0, x1, x2, x3, x4], _ =>
      rw [hx] at hN hQ
      simp only [List.map_cons, List.map_nil] at hN hQ
      have hz4 : SizeOf.sizeOf x4.1 < N := by simp at hN; omega
      have q := hagg _ hQ
      have g0 := h3 0 _ rfl
      have g1 := h3 1 _ rfl
      have g2 := h3 2 _ rfl
      have g3 := h3 3 _ rfl
      have g4 := h3 4 _ rfl
      simp at g0 g1 g2 g3 g4
      obtain ⟨k0, e0, hx0, hw0⟩ := DataW.trod_int Tryd.underlying51 g0
      obtain ⟨s1, e1, d1, m1⟩ := DataW.trod_string Tryd.underlying9 g1
      obtain ⟨s2, e2, d2, m2⟩ := DataW.trod_string Tryd.underlying9 g2
      obtain ⟨A1, n1, c1, l1, e3, ha⟩ := strs_elt g3
      obtain ⟨A2, n2, c2, l2, e4, hb⟩ := arr_of_trodQ (k := 5) (P := fun o v => ∃ d, optD (fun _ => True) W M d o v) Tryd.underlying60 (by kernel_rfl) (by decide) (fun d => SizeOf.sizeOf d < N ∧ Q d)
        (fun n cs x hx h => by obtain ⟨d, o, h⟩ := opt_eltQ Q hs hagg hsl N hx.1 hx.2 h; exact ⟨o, d, h⟩)
        (fun els spare hx d hd => by
          rw [hx] at hz4
          have := List.sizeOf_lt_of_mem hd
          simp at hz4
          exact ⟨by omega, hsl els spare (by rw [← hx]; exact q _ (by simp)) d hd⟩) g4
      obtain ⟨D, hD⟩ := hb.common
      obtain ⟨b1, rfl⟩ := str_ex s1
      obtain ⟨b2, rfl⟩ := str_ex s2
      rw [str_size] at m1 m2
      unfold maxLen at m1 m2
      have q1 := hs b1 (by have := q x1.1 (by simp); rw [d1] at this; simpa [str] using this) m1
      have q2 := hs b2 (by have := q x2.1 (by simp); rw [d2] at this; simpa [str] using this) m2
      have hk : 0 ≤ k0 ∧ k0 < 65536 := by
        simp [Lit.wf, IntKind.min, IntKind.max, IntKind.signed, IntKind.bits] at hw0
        omega
      obtain ⟨id, rfl⟩ := Int.eq_ofNat_of_zero_le hk.1
      have c1 : Tryd.prog.cellsOf 9 = 1 := by kernel_rfl
      have c2 : Tryd.prog.cellsOf 59 = 1 := by kernel_rfl
      have c3 : Tryd.prog.cellsOf 51 = 1 := by kernel_rfl
      have c4 : Tryd.prog.cellsOf 60 = 1 := by kernel_rfl
      match cs, hl5 with
      | [u0, u1, u2, u3, u4], _ =>
        simp [c1, c2, c3, c4] at e0 e1 e2 e3 e4
        subst e0 e1 e2 e3 e4
        exact ⟨D + 1, ⟨id, b1, b2, l1, l2⟩, _, _, _, _, _, _, rfl, (by show id < 65536; omega), q1, q2, ha, hD⟩
end
section
variable {H : Type} {enc : TypeId × Value → H} {W : World} {r : Reach} {b0 : Nat} {v : Value} {d : DataW H} {p : List MemPlace}
theorem opt_ofQ {M : Nat} (Q : DataW H → Prop) (hs : ∀ l : List UInt8, Q (.lit (.string l)) → l.length ≤ 9223372036854775807 → l.length ≤ M) (hagg : ∀ ps, Q (.agg ps) → ∀ d ∈ ps, Q d) (hsl : ∀ e s, Q (.slice e s) → ∀ d ∈ e, Q d) (hQ : Q d)
    (hval : Value.okWide Tryd.prog W r b0 62 v) (h : DataW.Trod enc Tryd.prog W 0 (fun _ => true) true 62 v d p) :
    ∃ D A1 n1 c1 A2 n2 c2 o, v = optV o A1 n1 c1 A2 n2 c2 ∧ OptR (fun _ => True) W M D A1 n1 c1 A2 n2 c2 o := by
  obtain ⟨cs, rfl, _⟩ := okWide_struct Tryd.underlying62 hval
  obtain ⟨fuel, hf⟩ := h
  obtain ⟨D, o, ho⟩ := opt_eltQ Q hs hagg hsl _ (Nat.lt_succ_self _) hQ hf
  obtain ⟨e, A1, n1, c1, A2, n2, c2, rfl, hv, hR⟩ := ho.open
  refine ⟨e, A1, n1, c1, A2, n2, c2, o, ?_, hR⟩
  have hv : cs.toList = _ := hv
  obtain rfl : cs = #[.int .u16 (o.id : Int), .string (str o.space), .string (str o.name), .slice A1 n1 c1, .slice A2 n2 c2] := by apply Array.toList_inj.1; exact hv
  rfl
theorem opt_of (hval : Value.okWide Tryd.prog W r b0 62 v) (h : DataW.Trod enc Tryd.prog W 0 (fun _ => true) true 62 v d p) :
    ∃ D A1 n1 c1 A2 n2 c2 o, v = optV o A1 n1 c1 A2 n2 c2 ∧ OptR (fun _ => True) W 9223372036854775807 D A1 n1 c1 A2 n2 c2 o :=
  opt_ofQ (fun _ => True) (fun _ _ h => h) (fun _ _ _ _ => trivial) (fun _ _ _ _ _ => trivial) trivial hval h
theorem opt_ofB {Bd : Nat} (hB : uptoBulk d ≤ Bd) (hval : Value.okWide Tryd.prog W r b0 62 v) (h : DataW.Trod enc Tryd.prog W 0 (fun _ => true) true 62 v d p) :
    ∃ D A1 n1 c1 A2 n2 c2 o, v = optV o A1 n1 c1 A2 n2 c2 ∧ OptR (fun _ => True) W Bd D A1 n1 c1 A2 n2 c2 o :=
  opt_ofQ (fun d => uptoBulk d ≤ Bd) (fun l h _ => by simp [uptoBulk] at h; omega) (fun ps h d hd => by simp only [uptoBulk] at h; have := bulk_mem hd; omega) (fun e s h d hd => bulk_slice h e s rfl d hd) hB hval h
end
/-- the table of names, out of the row's list -/
theorem pl_of {W : World} (h : laidMetH Tryd.prog [("signalbox/option.plain", Rows.laid_signalbox_option_plain)] W) : Pl W := by
  rw [MakeChecks.laidMetH_plain _ _ _ (by kernel_rfl)] at h
  obtain ⟨ps, ⟨g, t, cs, fuel, p, q, hg, ht, hv, hd, _, _⟩, _⟩ := h
  obtain rfl := Option.some.inj ((show Tryd.prog.globalNamed "signalbox/option.plain" = some 0 by kernel_rfl).symm.trans hg)
  obtain rfl := Option.some.inj ((show (Tryd.prog.globals[0]?).map (·.type) = some 157 by kernel_rfl).symm.trans ht)
  obtain ⟨xs, m, rfl, hx, hl, hn, hel⟩ := DataW.trod_array Tryd.underlying157 hd
  have hce : Tryd.prog.cellsOf 9 = 1 := by kernel_rfl
  have hxs : xs.map (·.1) = plainNames.map fun s => DataW.lit (.string s) := by
    have h1 := congrArg Prod.fst hx
    have h2 : (Rows.laid_signalbox_option_plain : DataW Unit) = .agg (plainNames.map fun s => DataW.lit (.string s)) := rfl
    rw [h2] at h1
    injection h1 with h1
    exact h1.symm
  intro i s hi
  have hi21 : i < 21 := (List.getElem?_eq_some_iff.1 hi).1
  have h1 := hel i hi21
  have hxi : xs[i]? = some xs[i] := List.getElem?_eq_getElem (by omega)
  rw [hxi, hce] at h1
  obtain ⟨b, e1, e2, _⟩ := DataW.trod_string Tryd.underlying9 h1
  have h3 : (xs.map (·.1))[i]? = some (DataW.lit (.string s)) := by rw [hxs, List.getElem?_map, hi]; rfl
  rw [List.getElem?_map, hxi] at h3
  have h3 : xs[i].1 = DataW.lit (.string s) := by simpa using h3
  rw [e2] at h3
  have h3 : b.data.toList = s := by simpa using h3
  have h4 := World.var?_cell hg hv i
  have h5 := congrArg (·[0]?) e1
  simp at h5
  rw [h4]
  have h6 : cs[i]? = some (.string b) := by simpa [List.getElem?_take, List.getElem?_drop] using h5
  rw [h6]
  congr 2
  subst h3
  rfl
end Go.Proofs.Sb
