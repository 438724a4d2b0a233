/- Arguments of bounded bulk, opened: no part is longer than the bulk. No conditions. -/
import Derived.Test.YtpgcadicamnpkaaRows
import Derived.Test.YtpgcadicamnpkaaArgsc
import Derived.JoinedCond
set_option linter.unusedVariables false
set_option linter.unusedSimpArgs false
namespace Go.Proofs.Sb
open Go.RowKit _root_.Sb
open Go.ChangeShapes Go.WideShapes Go.ChangeAt
open Go.Proofs.Ytpgcadicamnpkaa.Rows (uptoBulk uptoBulkAll uptoSmall)
set_option maxRecDepth 100000

section
variable {H : Type}
theorem bulk_one (d : DataW H) : 1 ≤ uptoBulk d := by
  cases d with
  | lit l => cases l <;> simp [uptoBulk]
  | nil => simp [uptoBulk]
  | ptr d => simp [uptoBulk]
  | slice els spare => simp [uptoBulk]
  | agg parts => simp [uptoBulk]
  | iface t d => simp [uptoBulk]
  | map entries => simp [uptoBulk]
  | held h => simp [uptoBulk]
theorem bulk_mem {d : DataW H} : ∀ {l : List (DataW H)}, d ∈ l → uptoBulk d ≤ uptoBulkAll l
  | x :: r, h => by
    simp only [uptoBulkAll]
    rcases List.mem_cons.1 h with e | e
    · subst e; omega
    · have := bulk_mem e; omega
theorem bulk_len : ∀ l : List (DataW H), l.length ≤ uptoBulkAll l
  | [] => by simp [uptoBulkAll]
  | x :: r => by have := bulk_one x; have := bulk_len r; simp only [uptoBulkAll, List.length_cons]; omega
theorem bulk_slice {Bd : Nat} {x : DataW H} (h : uptoBulk x ≤ Bd) : ∀ els spare, x = .slice els spare → ∀ d ∈ els, uptoBulk d ≤ Bd := by
  intro els spare e d hd
  subst e
  simp only [uptoBulk] at h
  have := bulk_mem hd
  omega
theorem bulk_small {ds : List (DataW H)} (hk : uptoSmall H (ds ++ []) = true) : ∀ d ∈ ds, uptoBulk d ≤ 1048576 := by
  intro d hd
  rw [List.append_nil] at hk
  have h : uptoBulkAll ds ≤ 1048576 := of_decide_eq_true hk
  have := bulk_mem hd
  omega
end
section
variable {H : Type} {enc : TypeId × Value → H} {W : World} {base : Nat} {sp : Nat → Bool} {Bd : Nat}
theorem str_eltB {n : Nat} {cs : List Value} {x : DataW H × List MemPlace} (hB : uptoBulk x.1 ≤ Bd) (h : DataW.trod enc Try.prog W base sp true n 9 cs = some x) : ∃ y, strP y cs ∧ y.length ≤ Bd := by
  obtain ⟨s, rfl, rfl, hs⟩ := DataW.trod_string Try.underlying9 h
  obtain ⟨bs, rfl⟩ := str_ex s
  rw [str_size] at hs
  unfold maxLen at hs
  simp [uptoBulk, str] at hB
  exact ⟨bs, ⟨rfl, by omega⟩, by omega⟩
theorem arr_of_trodB {α : Type} {k : Nat} {P : α → List Value → Prop} {t e : TypeId} (ht : Try.prog.underlying t = some (.slice e)) (hk : Try.prog.cellsOf e = k) (hk0 : 0 < k)
    (hel : ∀ n cs x, uptoBulk x.1 ≤ Bd → DataW.trod enc Try.prog W base sp true n e cs = some x → ∃ y : α, P y cs)
    {fuel : Nat} {cs : List Value} {x : DataW H × List MemPlace} (hB : uptoBulk x.1 ≤ Bd) (hf : DataW.trod enc Try.prog W base sp true fuel t cs = some x) :
    ∃ A n c l, cs = [.slice A n c] ∧ Arr k P (fun _ => True) W A n c l ∧ n ≤ Bd := by
  obtain ⟨A, n, c, l, rfl, ha⟩ := arr_of_trodQ ht hk hk0 (fun d => uptoBulk d ≤ Bd) hel (bulk_slice hB) hf
  refine ⟨A, n, c, l, rfl, ha, ?_⟩
  rcases Go.Deep.open_slice ht hf with ⟨h1, rfl⟩ | ⟨a, len, cap, m, n2, D, Pl, h1, hb, hl, hm, hmm, rfl, hx⟩
  · injection h1 with h1; injection h1 with _ h1; omega
  · injection h1 with h1
    injection h1 with _ h1
    simp only [uptoBulk] at hB
    have := bulk_len ((List.range len).map D)
    rw [List.length_map, List.length_range] at this
    omega
theorem bytes_eltB {n : Nat} {cs : List Value} {x : DataW H × List MemPlace} (hB : uptoBulk x.1 ≤ Bd) (h : DataW.trod enc Try.prog W 0 (fun _ => true) true n 22 cs = some x) : ∃ A n c bs, cs = [.slice A n c] ∧ Sl (fun _ => True) W A n c bs ∧ bs.length ≤ Bd := by
  obtain ⟨A, n, c, bs, rfl, hs⟩ := bytes_elt h
  refine ⟨A, n, c, bs, rfl, hs, ?_⟩
  have hl := hs.len
  rcases Go.Deep.open_slice Try.underlying22 h with ⟨h1, rfl⟩ | ⟨a, len, cap, m, n2, D, Pl, h1, hb, hl2, hm, hmm, rfl, hx⟩
  · injection h1 with h1; injection h1 with _ h1; omega
  · injection h1 with h1
    injection h1 with _ h1
    simp only [uptoBulk] at hB
    have := bulk_len ((List.range len).map D)
    rw [List.length_map, List.length_range] at this
    omega
theorem field_ofB {t : TypeId} {fs : Array Field} {n : Nat} {cs : List Value} {x : DataW H × List MemPlace} (ht : Try.prog.underlying t = some (.struct fs)) (hB : uptoBulk x.1 ≤ Bd) (h : DataW.trod enc Try.prog W base sp true n t cs = some x) :
    cs.length = Try.prog.cellsOf t ∧ ∃ m, ∀ (i : Nat) (f : Field), fs[i]? = some f → ∃ y, DataW.trod enc Try.prog W base sp true m f.type ((cs.drop f.offset).take (Try.prog.cellsOf f.type)) = some y ∧ uptoBulk y.1 ≤ Bd := by
  obtain ⟨xs, m, _, rfl, h1, h2, h3⟩ := DataW.trod_struct ht h
  refine ⟨h1, m, fun i f hf => ?_⟩
  have hi : i < fs.size := (Array.getElem?_eq_some_iff.1 hf).1
  refine ⟨xs[i], by rw [h3 i f hf]; exact List.getElem?_eq_getElem (by omega), ?_⟩
  simp only [uptoBulk] at hB
  have := bulk_mem (d := xs[i].1) (l := xs.map (·.1)) (List.mem_map.2 ⟨xs[i], List.getElem_mem _, rfl⟩)
  omega
theorem entry_eltB {n : Nat} {cs : List Value} {x : DataW H × List MemPlace} (hB : uptoBulk x.1 ≤ Bd) (h : DataW.trod enc Try.prog W 0 (fun _ => true) true n 31 cs = some x) : ∃ y, entryP (fun _ => True) W y cs ∧ y.1.length ≤ Bd ∧ y.2.bytes.length ≤ Bd := by
  obtain ⟨hl, m, hf⟩ := field_ofB Try.underlying31 hB h
  have hl2 : cs.length = 3 := hl.trans (by kernel_rfl)
  obtain ⟨y0, h0, b0⟩ := hf 0 _ rfl
  obtain ⟨y1, h1, b1⟩ := hf 1 _ rfl
  obtain ⟨s0, ⟨e0, l0⟩, k0⟩ := str_eltB b0 h0
  obtain ⟨hl3, m2, hf2⟩ := field_ofB Try.underlying29 b1 h1
  obtain ⟨y2, h2, b2⟩ := hf2 0 _ rfl
  obtain ⟨y3, h3, b3⟩ := hf2 1 _ rfl
  obtain ⟨k, e2, _⟩ := DataW.trod_int Try.underlying3 h2
  obtain ⟨A, n1, c, bs, e3, ha, k3⟩ := bytes_eltB b3 h3
  have c1 : Try.prog.cellsOf 9 = 1 := by kernel_rfl
  have c2 : Try.prog.cellsOf 29 = 2 := by kernel_rfl
  have c3 : Try.prog.cellsOf 3 = 1 := by kernel_rfl
  have c4 : Try.prog.cellsOf 22 = 1 := by kernel_rfl
  match cs, hl2 with
  | [a, b, d], _ =>
    simp [c1, c2, c3, c4] at e0 e2 e3
    subst e0 e2 e3
    exact ⟨(s0, ⟨k, bs⟩), ⟨A, n1, c, rfl, l0, ha⟩, k0, k3⟩
end
theorem Els.mem {α : Type} {k : Nat} {P : α → List Value → Prop} : ∀ {l : List α} {vs : List Value}, Els k P l vs → ∀ x ∈ l, ∃ v, P x v
  | y :: l, _, ⟨v, r, _, _, hp, h⟩, x, hx => by
    rcases List.mem_cons.1 hx with rfl | hx
    · exact ⟨v, hp⟩
    · exact Els.mem h x hx
theorem Arr.mem {α : Type} {k : Nat} {P : α → List Value → Prop} {S : Nat → Prop} {w : World} {A : Option Addr} {n c : Nat} {l : List α} (h : Arr k P S w A n c l) : ∀ x ∈ l, ∃ v, P x v := by
  obtain ⟨_, _, _, vs, h1, _⟩ := h
  exact h1.mem
section
variable {H : Type} {enc : TypeId × Value → H} {W : World} {r : Reach} {b0 : Nat} {v : Value} {d : DataW H} {p : List MemPlace} {Bd : Nat}
theorem arr_of_argB {α : Type} {k : Nat} {P : α → List Value → Prop} {R : α → Prop} {t e : TypeId} (ht : Try.prog.underlying t = some (.slice e)) (hk : Try.prog.cellsOf e = k) (hk0 : 0 < k)
    (hel : ∀ n cs x, uptoBulk x.1 ≤ Bd → DataW.trod enc Try.prog W 0 (fun _ => true) true n e cs = some x → ∃ y : α, P y cs ∧ R y)
    (hval : Value.okWide Try.prog W r b0 t v) (h : DataW.Trod enc Try.prog W 0 (fun _ => true) true t v d p) (hB : uptoBulk d ≤ Bd) : ∃ A n c l, v = .slice A n c ∧ Arr k P (fun _ => True) W A n c l ∧ n ≤ Bd ∧ ∀ x ∈ l, R x := by
  obtain ⟨a0, len0, cap0, rfl⟩ := okWide_slice ht hval
  obtain ⟨fuel, hf⟩ := h
  obtain ⟨A, n, c, l, he, ha, hn⟩ := arr_of_trodB (P := fun y v => P y v ∧ R y) ht hk hk0 hel hB hf
  have hc : [Value.slice a0 len0 cap0] = [Value.slice A n c] := he
  injection hc with hc
  exact ⟨A, n, c, l, hc, ha.imp fun _ _ _ h => h.1, hn, fun x hx => by obtain ⟨v, _, h⟩ := ha.mem x hx; exact h⟩
theorem entries_ofB (hval : Value.okWide Try.prog W r b0 24 v) (h : DataW.Trod enc Try.prog W 0 (fun _ => true) true 24 v d p) (hB : uptoBulk d ≤ Bd) : ∃ A n c l, v = .slice A n c ∧ Arr 3 (entryP (fun _ => True) W) (fun _ => True) W A n c l ∧ n ≤ Bd ∧ ∀ x ∈ l, x.1.length ≤ Bd ∧ x.2.bytes.length ≤ Bd :=
  arr_of_argB (P := entryP (fun _ => True) W) (k := 3) (R := fun y : B × Val => y.1.length ≤ Bd ∧ y.2.bytes.length ≤ Bd) Try.underlying24 (by kernel_rfl) (by decide) (fun _ _ _ hb h => entry_eltB hb h) hval h hB
end
end Go.Proofs.Sb
