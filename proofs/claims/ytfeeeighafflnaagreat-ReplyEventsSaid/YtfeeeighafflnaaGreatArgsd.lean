/- Arguments, opened: a string, a slice of bytes, as the walks want them. No conditions. -/
import Derived.Test.YtfeeeighafflnaaGreatBase
import Derived.ProofKit
import Derived.OpenShut
import Derived.Lib.SmallJoins
import Derived.ShutString
import Derived.ChangeOld
import Derived.Test.YtfeeeighafflnaaGreatArr
import Derived.Deep.Slices
import Derived.Test.YtfeeeighafflnaaGreatMapsd
import Derived.Test.YtfeeeighafflnaaGreatRows
import Derived.JoinedCond
set_option linter.unusedVariables false
set_option linter.unusedSimpArgs false
namespace Go.Proofs.Sb
open Go.RowKit _root_.Sb
open Go.ChangeShapes Go.WideShapes Go.ChangeAt
open Go.ChangeMaps (open_string shut_string)

theorem Tryz.own : ownKnob Tryz.prog.godebug = none := by kernel_rfl
theorem Tryz.laidOut : laidOutB Tryz.prog = true := by kernel_rfl

set_option maxRecDepth 100000 in
/-- a slice of bytes that came in reads as bytes -/
theorem sl_of_trod {H : Type} {enc : TypeId × Value → H} {W : World} {fuel : Nat} {v : Value} {x : DataW H × List MemPlace} (hf : DataW.trod enc Tryz.prog W 0 (fun _ => true) true fuel 25 [v] = some x) :
    ∃ A n c bs, v = .slice A n c ∧ Sl (fun _ => True) W A n c bs := by
  rcases open_ints Tryz.underlying25 Tryz.underlying5 (by kernel_rfl) hf with ⟨hcs, _⟩ | ⟨x, len0, cap0, zs, hcs, _, hl, hm, hz, _, hcell, hwz⟩
  · simp at hcs
    subst hcs
    exact ⟨none, 0, 0, [], rfl, Sl.nil⟩
  · simp at hcs
    subst hcs
    have hz' : zs.length = cap0 := by simpa using hz
    refine ⟨some x, len0, cap0, (zs.take len0).map fun n => UInt8.ofNat n.toNat, rfl, ?_, hl, hm, fun hn => ?_⟩
    · simp; omega
    · have h0 : 0 < zs.length := by
        rcases Nat.eq_zero_or_pos zs.length with h | h
        · rw [List.eq_nil_of_length_eq_zero h] at hn; simp [bv] at hn
        · exact h
      have hc0 := hcell 0 h0
      obtain ⟨b, off, spot⟩ := x
      have hspot : spot = none := by simpa [Addr.add] using World.cell?_spot hc0
      subst hspot
      refine ⟨b, off, rfl, trivial, World.block_lt_of_cell? W ⟨b, off, none⟩ (by simpa [Addr.add] using hc0), fun j u hu => ?_⟩
      have hj : j < len0 := by
        have := (List.getElem?_eq_some_iff.1 hu).1
        simp [bv] at this
        omega
      have hjz : j < zs.length := by omega
      have hc := hcell j hjz
      rw [Addr.add_lit] at hc
      rw [hc]
      have hw := hwz zs[j] (List.getElem_mem hjz)
      have hb : 0 ≤ zs[j] ∧ zs[j] < 256 := by
        simp [Lit.wf, IntKind.min, IntKind.max, IntKind.signed, IntKind.bits] at hw
        omega
      have e : (bv ((zs.take len0).map fun n => UInt8.ofNat n.toNat))[j]? = some (.int .u8 zs[j]) := by
        simp [bv, hj, hjz]
        omega
      rw [e] at hu
      rw [← hu]
      simp [hjz]
set_option maxRecDepth 100000 in
theorem sl_of {H : Type} {enc : TypeId × Value → H} {W : World} {r : Reach} {b0 : Nat} {v : Value} {d : DataW H} {p : List MemPlace} (hval : Value.okWide Tryz.prog W r b0 25 v) (h : DataW.Trod enc Tryz.prog W 0 (fun _ => true) true 25 v d p) :
    ∃ A n c bs, v = .slice A n c ∧ Sl (fun _ => True) W A n c bs := by
  obtain ⟨a0, len0, cap0, rfl⟩ := okWide_slice Tryz.underlying25 hval
  obtain ⟨fuel, hf⟩ := h
  exact sl_of_trod hf
set_option maxRecDepth 100000 in
theorem val_of {H : Type} {enc : TypeId × Value → H} {W : World} {r : Reach} {b0 : Nat} {v : Value} {d : DataW H} {p : List MemPlace} (hval : Value.okWide Tryz.prog W r b0 32 v) (h : DataW.Trod enc Tryz.prog W 0 (fun _ => true) true 32 v d p) :
    ∃ A n c, ∃ x : Val, v = .agg #[.int .i64 x.kind, .slice A n c] ∧ Sl (fun _ => True) W A n c x.bytes := by
  obtain ⟨c0, c1, y0, y1, m, rfl, rfl, rfl, hy0, hy1⟩ := Joins.open_agg2 Tryz.underlying32 (by kernel_rfl) (by kernel_rfl) hval h
  obtain ⟨k, e0, rfl, _⟩ := DataW.trod_int Tryz.underlying3 hy0
  simp at e0
  subst e0
  obtain ⟨A, n, c, bs, rfl, hs⟩ := sl_of_trod hy1
  exact ⟨A, n, c, ⟨k, bs⟩, rfl, hs⟩
set_option maxRecDepth 100000 in
theorem int_of {H : Type} {enc : TypeId × Value → H} {W : World} {r : Reach} {b0 : Nat} {t : TypeId} {k : IntKind} (ht : Tryz.prog.underlying t = some (.int k)) {v : Value} {d : DataW H} {p : List MemPlace} (hval : Value.okWide Tryz.prog W r b0 t v) (h : DataW.Trod enc Tryz.prog W 0 (fun _ => true) true t v d p) :
    ∃ n, v = .int k n ∧ (Lit.int k n).wf = true := by
  obtain ⟨x, rfl, _, _, wx⟩ := open_int ht hval h
  exact ⟨x, rfl, wx⟩
set_option maxRecDepth 100000 in
theorem str_of_arg {H : Type} {enc : TypeId × Value → H} {W : World} {r : Reach} {b0 : Nat} {v : Value} {d : DataW H} {p : List MemPlace} (hval : Value.okWide Tryz.prog W r b0 9 v) (h : DataW.Trod enc Tryz.prog W 0 (fun _ => true) true 9 v d p) :
    ∃ s, v = .string (str s) ∧ s.length ≤ 9223372036854775807 := by
  obtain ⟨s, rfl, _, _, hs⟩ := open_string Tryz.underlying9 hval h
  obtain ⟨bs, rfl⟩ := str_ex s
  rw [str_size] at hs
  unfold maxLen at hs
  exact ⟨bs, rfl, by omega⟩
theorem lt_of {H : Type} {enc : TypeId × Value → H} {W : World} {t : TypeId} {v : Value} {d : DataW H} {p : List MemPlace} (h : DataW.Trod enc Tryz.prog W 0 (fun _ => true) true t v d p) : ∀ x ∈ p, x.block < W.heap.size := by
  obtain ⟨m, hm⟩ := h; exact DataW.trod_lt m _ _ _ hm
end Go.Proofs.Sb

/- Arguments that are slices of elements of any kind, opened. No conditions. -/
namespace Go.Proofs.Sb
open Go.RowKit _root_.Sb
open Go.ChangeShapes Go.WideShapes Go.ChangeAt

theorem flat_get {k : Nat} (f : Nat → List Value) : ∀ (n o i j : Nat), (∀ i, i < n → (f (o + i)).length = k) → i < n → j < k → ((List.range' o n).flatMap f)[i * k + j]? = (f (o + i))[j]?
  | 0, _, _, _, _, h, _ => absurd h (Nat.not_lt_zero _)
  | n + 1, o, 0, j, hl, _, hj => by
    have h0 := hl 0 (by omega)
    simp only [Nat.add_zero] at h0
    simp only [List.range'_succ, List.flatMap_cons, Nat.zero_mul, Nat.zero_add, Nat.add_zero]
    rw [List.getElem?_append_left (by omega)]
  | n + 1, o, i + 1, j, hl, hi, hj => by
    have h0 := hl 0 (by omega)
    simp only [Nat.add_zero] at h0
    have ih := flat_get f n (o + 1) i j (fun i hi => by have := hl (i + 1) (by omega); rwa [show o + 1 + i = o + (i + 1) from by omega]) (by omega) hj
    simp only [List.range'_succ, List.flatMap_cons]
    rw [List.getElem?_append_right (by rw [h0, Nat.add_mul]; omega), h0]
    have e : (i + 1) * k + j - k = i * k + j := by rw [Nat.add_mul]; omega
    rw [e, ih, show o + 1 + i = o + (i + 1) from by omega]
theorem choose_list {α : Type} {p : Nat → α → Prop} : ∀ n : Nat, (∀ i, i < n → ∃ x, p i x) → ∃ l : List α, l.length = n ∧ ∀ i x, l[i]? = some x → p i x
  | 0, _ => ⟨[], rfl, fun i x h => by simp at h⟩
  | n + 1, h => by
    obtain ⟨l, hl, hp⟩ := choose_list n fun i hi => h i (by omega)
    obtain ⟨x, hx⟩ := h n (by omega)
    refine ⟨l ++ [x], by simp [hl], fun i y hy => ?_⟩
    by_cases hi : i < n
    · rw [List.getElem?_append_left (by omega)] at hy; exact hp i y hy
    · by_cases hin : i = n
      · subst hin
        rw [List.getElem?_append_right (by omega)] at hy
        simp [hl] at hy
        subst hy
        exact hx
      · rw [List.getElem?_eq_none (by simp; omega)] at hy
        cases hy

section
variable {H : Type} {enc : TypeId × Value → H} {W : World} {base : Nat} {sp : Nat → Bool}
/-- a slice of elements that came in, opened element by element -/
theorem arr_of_trodQ {α : Type} {k : Nat} {P : α → List Value → Prop} {t e : TypeId} (ht : Tryz.prog.underlying t = some (.slice e)) (hk : Tryz.prog.cellsOf e = k) (hk0 : 0 < k) (Q : DataW H → Prop)
    (hel : ∀ n cs x, Q x.1 → DataW.trod enc Tryz.prog W base sp true n e cs = some x → ∃ y : α, P y cs)
    {fuel : Nat} {cs : List Value} {x : DataW H × List MemPlace} (hQ : ∀ els spare, x.1 = .slice els spare → ∀ d ∈ els, Q d) (hf : DataW.trod enc Tryz.prog W base sp true fuel t cs = some x) :
    ∃ A n c l, cs = [.slice A n c] ∧ Arr k P (fun _ => True) W A n c l := by
  rcases Go.Deep.open_slice ht hf with ⟨rfl, _⟩ | ⟨a, len, cap, m, n, D, Pl, rfl, hb, hl, hm, hmm, rfl, hx⟩
  · exact ⟨none, 0, 0, [], rfl, Arr.nil⟩
  · have hlm : len ≤ m := by rw [hmm]; split <;> omega
    obtain ⟨q, hq, hqp⟩ := choose_list (α := α × List Value) (p := fun i y => P y.1 y.2 ∧ y.2.length = k ∧ ∀ j, j < k → W.cell? ((a.add (i * k)).add j) = y.2[j]?) len fun i hi => by
      obtain ⟨cs', h1, h2⟩ := hx i (by omega)
      obtain ⟨y, hy⟩ := hel _ _ _ (hQ _ _ rfl (D i) (List.mem_map.2 ⟨i, List.mem_range.2 hi, rfl⟩)) h2
      rw [hk] at h1
      obtain ⟨_, h3, h4⟩ := World.cells?_some h1
      exact ⟨(y, cs'), hy, h3, h4⟩
    have hgt : ∀ i, i < len → ∃ x, q[i]? = some x := fun i hi => ⟨q[i], List.getElem?_eq_getElem (by omega)⟩
    let f : Nat → List Value := fun i => ((q[i]?).map (·.2)).getD []
    have hfe : ∀ i x, q[i]? = some x → f i = x.2 := fun i x h => by simp [f, h]
    have hlen : ∀ i, i < len → (f i).length = k := fun i hi => by obtain ⟨x, h⟩ := hgt i hi; rw [hfe i x h]; exact (hqp i x h).2.1
    refine ⟨some a, len, cap, q.map (·.1), rfl, by simp [hq], hl, hm, (List.range' 0 (q.map (·.1)).length).flatMap f, Els.mk _ f 0 fun i x hix => ?_, fun hn => ?_⟩
    · rw [List.getElem?_map] at hix
      cases hqi : q[i]? with
      | none => rw [hqi] at hix; cases hix
      | some y =>
        rw [hqi] at hix
        injection hix with hix
        subst hix
        rw [Nat.zero_add, hfe i y hqi]
        exact ⟨(hqp i y hqi).2.1, (hqp i y hqi).1⟩
    · have hl0 : 0 < len := by
        rcases Nat.eq_zero_or_pos len with h | h
        · exfalso; apply hn; simp [hq, h]
        · exact h
      obtain ⟨y0, hy0⟩ := hgt 0 hl0
      have h00 := (hqp 0 y0 hy0).2.2 0 hk0
      have hy1 := (hqp 0 y0 hy0).2.1
      rw [List.getElem?_eq_getElem (by omega)] at h00
      obtain ⟨b, off, spot⟩ := a
      have hspot : spot = none := by simpa [Addr.add] using World.cell?_spot h00
      subst hspot
      refine ⟨b, off, rfl, trivial, World.block_lt_of_cell? W ⟨b, off, none⟩ (by simpa [Addr.add] using h00), fun j u hu => ?_⟩
      have hjl : j < len * k := by
        have := (List.getElem?_eq_some_iff.1 hu).1
        have h2 : ((List.range' 0 (q.map (·.1)).length).flatMap f).length = len * k := by
          have : Els k P (q.map (·.1)) ((List.range' 0 (q.map (·.1)).length).flatMap f) := Els.mk _ f 0 fun i x hix => by
            rw [List.getElem?_map] at hix
            cases hqi : q[i]? with
            | none => rw [hqi] at hix; cases hix
            | some y =>
              rw [hqi] at hix
              injection hix with hix
              subst hix
              rw [Nat.zero_add, hfe i y hqi]
              exact ⟨(hqp i y hqi).2.1, (hqp i y hqi).1⟩
          rw [this.length]; simp [hq]
        omega
      have hi : j / k < len := Nat.div_lt_of_lt_mul (by rw [Nat.mul_comm]; exact hjl)
      have hr : j % k < k := Nat.mod_lt _ hk0
      have hj : j = j / k * k + j % k := by rw [Nat.mul_comm]; exact (Nat.div_add_mod j k).symm
      have g := flat_get (k := k) f (q.map (·.1)).length 0 (j / k) (j % k) (fun i hi => by rw [Nat.zero_add]; exact hlen i (by simpa [hq] using hi)) (by simpa [hq] using hi) hr
      rw [← hj, Nat.zero_add] at g
      rw [g] at hu
      obtain ⟨y, hy⟩ := hgt (j / k) hi
      rw [hfe _ y hy] at hu
      have h1 := (hqp _ y hy).2.2 (j % k) hr
      rw [hu, Addr.add_lit, Addr.add_lit] at h1
      rw [hj, ← Nat.add_assoc]
      exact h1
theorem arr_of_trod {α : Type} {k : Nat} {P : α → List Value → Prop} {t e : TypeId} (ht : Tryz.prog.underlying t = some (.slice e)) (hk : Tryz.prog.cellsOf e = k) (hk0 : 0 < k)
    (hel : ∀ n cs x, DataW.trod enc Tryz.prog W base sp true n e cs = some x → ∃ y : α, P y cs)
    {fuel : Nat} {cs : List Value} {x : DataW H × List MemPlace} (hf : DataW.trod enc Tryz.prog W base sp true fuel t cs = some x) :
    ∃ A n c l, cs = [.slice A n c] ∧ Arr k P (fun _ => True) W A n c l :=
  arr_of_trodQ ht hk hk0 (fun _ => True) (fun n cs x _ h => hel n cs x h) (fun _ _ _ _ _ => trivial) hf
end
end Go.Proofs.Sb

/- Arguments that are rows of texts, pairs, multis, entries, rows of rows: opened. No conditions. -/
namespace Go.Proofs.Sb
open Go.RowKit _root_.Sb
open Go.ChangeShapes Go.WideShapes Go.ChangeAt
set_option maxRecDepth 100000

section
variable {H : Type} {enc : TypeId × Value → H} {W : World} {base : Nat} {sp : Nat → Bool}
theorem str_elt {n : Nat} {cs : List Value} {x : DataW H × List MemPlace} (h : DataW.trod enc Tryz.prog W base sp true n 9 cs = some x) : ∃ y, strP y cs := by
  obtain ⟨s, rfl, _, hs⟩ := DataW.trod_string Tryz.underlying9 h
  obtain ⟨bs, rfl⟩ := str_ex s
  rw [str_size] at hs
  unfold maxLen at hs
  exact ⟨bs, rfl, by omega⟩
theorem strs_elt {n : Nat} {cs : List Value} {x : DataW H × List MemPlace} (h : DataW.trod enc Tryz.prog W base sp true n 24 cs = some x) : ∃ A n c l, cs = [.slice A n c] ∧ Arr 1 strP (fun _ => True) W A n c l :=
  arr_of_trod Tryz.underlying24 (by kernel_rfl) (by decide) (fun _ _ _ h => str_elt h) h
theorem bytes_elt {n : Nat} {cs : List Value} {x : DataW H × List MemPlace} (h : DataW.trod enc Tryz.prog W 0 (fun _ => true) true n 25 cs = some x) : ∃ A n c bs, cs = [.slice A n c] ∧ Sl (fun _ => True) W A n c bs := by
  obtain ⟨v, rfl⟩ : ∃ v, cs = [v] := by
    rcases Go.Deep.open_slice Tryz.underlying25 h with ⟨rfl, _⟩ | ⟨a, len, cap, m, n, D, Pl, rfl, _⟩ <;> exact ⟨_, rfl⟩
  obtain ⟨A, n, c, bs, rfl, hs⟩ := sl_of_trod h
  exact ⟨A, n, c, bs, rfl, hs⟩
/-- a field of a struct that came in -/
theorem field_of {t : TypeId} {fs : Array Field} {n : Nat} {cs : List Value} {x : DataW H × List MemPlace} (ht : Tryz.prog.underlying t = some (.struct fs)) (h : DataW.trod enc Tryz.prog W base sp true n t cs = some x) :
    cs.length = Tryz.prog.cellsOf t ∧ ∃ m, ∀ (i : Nat) (f : Field), fs[i]? = some f → ∃ y, DataW.trod enc Tryz.prog W base sp true m f.type ((cs.drop f.offset).take (Tryz.prog.cellsOf f.type)) = some y := by
  obtain ⟨xs, m, _, _, h1, h2, h3⟩ := DataW.trod_struct ht h
  refine ⟨h1, m, fun i f hf => ?_⟩
  have hi : i < fs.size := (Array.getElem?_eq_some_iff.1 hf).1
  exact ⟨xs[i], by rw [h3 i f hf]; exact List.getElem?_eq_getElem (by omega)⟩
theorem multi_elt {n : Nat} {cs : List Value} {x : DataW H × List MemPlace} (h : DataW.trod enc Tryz.prog W base sp true n 65 cs = some x) : ∃ y, multiP (fun _ => True) W y cs := by
  obtain ⟨hl, m, hf⟩ := field_of Tryz.underlying65 h
  have hl2 : cs.length = 2 := hl.trans (by kernel_rfl)
  obtain ⟨y0, h0⟩ := hf 0 _ rfl
  obtain ⟨y1, h1⟩ := hf 1 _ rfl
  obtain ⟨s0, e0, l0⟩ := str_elt h0
  obtain ⟨A, n1, c, l, e1, ha⟩ := strs_elt h1
  have c1 : Tryz.prog.cellsOf 9 = 1 := by kernel_rfl
  have c2 : Tryz.prog.cellsOf 24 = 1 := by kernel_rfl
  match cs, hl2 with
  | [a, b], _ =>
    simp [c1, c2] at e0 e1
    subst e0 e1
    exact ⟨(s0, l), A, n1, c, rfl, l0, ha⟩
/-- a row of rows of texts: the cells of one -/
def rowP (S : Nat → Prop) (w : World) (p : List B) (v : List Value) : Prop := ∃ A n c, v = [.slice A n c] ∧ Arr 1 strP S w A n c p
theorem row_elt {n : Nat} {cs : List Value} {x : DataW H × List MemPlace} (h : DataW.trod enc Tryz.prog W base sp true n 24 cs = some x) : ∃ y, rowP (fun _ => True) W y cs := by
  obtain ⟨A, n, c, l, e, ha⟩ := strs_elt h
  exact ⟨l, A, n, c, e, ha⟩
end
section
variable {H : Type} {enc : TypeId × Value → H} {W : World} {r : Reach} {b0 : Nat} {v : Value} {d : DataW H} {p : List MemPlace}
theorem arr_of_arg {α : Type} {k : Nat} {P : α → List Value → Prop} {t e : TypeId} (ht : Tryz.prog.underlying t = some (.slice e)) (hk : Tryz.prog.cellsOf e = k) (hk0 : 0 < k)
    (hel : ∀ n cs x, DataW.trod enc Tryz.prog W 0 (fun _ => true) true n e cs = some x → ∃ y : α, P y cs)
    (hval : Value.okWide Tryz.prog W r b0 t v) (h : DataW.Trod enc Tryz.prog W 0 (fun _ => true) true t v d p) : ∃ A n c l, v = .slice A n c ∧ Arr k P (fun _ => True) W A n c l := by
  obtain ⟨a0, len0, cap0, rfl⟩ := okWide_slice ht hval
  obtain ⟨fuel, hf⟩ := h
  obtain ⟨A, n, c, l, he, ha⟩ := arr_of_trod ht hk hk0 hel hf
  have hc : [Value.slice a0 len0 cap0] = [Value.slice A n c] := he
  injection hc with hc
  exact ⟨A, n, c, l, hc, ha⟩
theorem texts_of (hval : Value.okWide Tryz.prog W r b0 24 v) (h : DataW.Trod enc Tryz.prog W 0 (fun _ => true) true 24 v d p) : ∃ A n c l, v = .slice A n c ∧ Arr 1 strP (fun _ => True) W A n c l :=
  arr_of_arg Tryz.underlying24 (by kernel_rfl) (by decide) (fun _ _ _ h => str_elt h) hval h
theorem multis_of (hval : Value.okWide Tryz.prog W r b0 30 v) (h : DataW.Trod enc Tryz.prog W 0 (fun _ => true) true 30 v d p) : ∃ A n c l, v = .slice A n c ∧ Arr 2 (multiP (fun _ => True) W) (fun _ => True) W A n c l :=
  arr_of_arg Tryz.underlying30 (by kernel_rfl) (by decide) (fun _ _ _ h => multi_elt h) hval h
end
end Go.Proofs.Sb

/- Arguments of bounded bulk, opened: no part is longer than the bulk. No conditions. -/
namespace Go.Proofs.Sb
open Go.RowKit _root_.Sb
open Go.ChangeShapes Go.WideShapes Go.ChangeAt
open Go.Proofs.YtfeeeighafflnaaGreat.Rows (uptoBulk uptoBulkAll uptoSmall)
set_option maxRecDepth 100000

section
variable {H : Type}
theorem bulk_one (d : DataW H) : 1 ≤ uptoBulk d := by
  cases d with
  | lit l => cases l <;> simp [uptoBulk]
  | nil => simp [uptoBulk]
  | ptr d => simp [uptoBulk]
  | slice els spare => simp [uptoBulk]
  | agg parts => simp [uptoBulk]
  | iface t d => simp [uptoBulk]
  | map entries => simp [uptoBulk]
  | held h => simp [uptoBulk]
theorem bulk_mem {d : DataW H} : ∀ {l : List (DataW H)}, d ∈ l → uptoBulk d ≤ uptoBulkAll l
  | x :: r, h => by
    simp only [uptoBulkAll]
    rcases List.mem_cons.1 h with e | e
    · subst e; omega
    · have := bulk_mem e; omega
theorem bulk_len : ∀ l : List (DataW H), l.length ≤ uptoBulkAll l
  | [] => by simp [uptoBulkAll]
  | x :: r => by have := bulk_one x; have := bulk_len r; simp only [uptoBulkAll, List.length_cons]; omega
theorem bulk_slice {Bd : Nat} {x : DataW H} (h : uptoBulk x ≤ Bd) : ∀ els spare, x = .slice els spare → ∀ d ∈ els, uptoBulk d ≤ Bd := by
  intro els spare e d hd
  subst e
  simp only [uptoBulk] at h
  have := bulk_mem hd
  omega
theorem bulk_small {ds : List (DataW H)} (hk : uptoSmall H (ds ++ []) = true) : ∀ d ∈ ds, uptoBulk d ≤ 1048576 := by
  intro d hd
  rw [List.append_nil] at hk
  have h : uptoBulkAll ds ≤ 1048576 := of_decide_eq_true hk
  have := bulk_mem hd
  omega
end
section
variable {H : Type} {enc : TypeId × Value → H} {W : World} {base : Nat} {sp : Nat → Bool} {Bd : Nat}
theorem str_eltB {n : Nat} {cs : List Value} {x : DataW H × List MemPlace} (hB : uptoBulk x.1 ≤ Bd) (h : DataW.trod enc Tryz.prog W base sp true n 9 cs = some x) : ∃ y, strP y cs ∧ y.length ≤ Bd := by
  obtain ⟨s, rfl, rfl, hs⟩ := DataW.trod_string Tryz.underlying9 h
  obtain ⟨bs, rfl⟩ := str_ex s
  rw [str_size] at hs
  unfold maxLen at hs
  simp [uptoBulk, str] at hB
  exact ⟨bs, ⟨rfl, by omega⟩, by omega⟩
theorem arr_of_trodB {α : Type} {k : Nat} {P : α → List Value → Prop} {t e : TypeId} (ht : Tryz.prog.underlying t = some (.slice e)) (hk : Tryz.prog.cellsOf e = k) (hk0 : 0 < k)
    (hel : ∀ n cs x, uptoBulk x.1 ≤ Bd → DataW.trod enc Tryz.prog W base sp true n e cs = some x → ∃ y : α, P y cs)
    {fuel : Nat} {cs : List Value} {x : DataW H × List MemPlace} (hB : uptoBulk x.1 ≤ Bd) (hf : DataW.trod enc Tryz.prog W base sp true fuel t cs = some x) :
    ∃ A n c l, cs = [.slice A n c] ∧ Arr k P (fun _ => True) W A n c l ∧ n ≤ Bd := by
  obtain ⟨A, n, c, l, rfl, ha⟩ := arr_of_trodQ ht hk hk0 (fun d => uptoBulk d ≤ Bd) hel (bulk_slice hB) hf
  refine ⟨A, n, c, l, rfl, ha, ?_⟩
  rcases Go.Deep.open_slice ht hf with ⟨h1, rfl⟩ | ⟨a, len, cap, m, n2, D, Pl, h1, hb, hl, hm, hmm, rfl, hx⟩
  · injection h1 with h1; injection h1 with _ h1; omega
  · injection h1 with h1
    injection h1 with _ h1
    simp only [uptoBulk] at hB
    have := bulk_len ((List.range len).map D)
    rw [List.length_map, List.length_range] at this
    omega
theorem bytes_eltB {n : Nat} {cs : List Value} {x : DataW H × List MemPlace} (hB : uptoBulk x.1 ≤ Bd) (h : DataW.trod enc Tryz.prog W 0 (fun _ => true) true n 25 cs = some x) : ∃ A n c bs, cs = [.slice A n c] ∧ Sl (fun _ => True) W A n c bs ∧ bs.length ≤ Bd := by
  obtain ⟨A, n, c, bs, rfl, hs⟩ := bytes_elt h
  refine ⟨A, n, c, bs, rfl, hs, ?_⟩
  have hl := hs.len
  rcases Go.Deep.open_slice Tryz.underlying25 h with ⟨h1, rfl⟩ | ⟨a, len, cap, m, n2, D, Pl, h1, hb, hl2, hm, hmm, rfl, hx⟩
  · injection h1 with h1; injection h1 with _ h1; omega
  · injection h1 with h1
    injection h1 with _ h1
    simp only [uptoBulk] at hB
    have := bulk_len ((List.range len).map D)
    rw [List.length_map, List.length_range] at this
    omega
theorem field_ofB {t : TypeId} {fs : Array Field} {n : Nat} {cs : List Value} {x : DataW H × List MemPlace} (ht : Tryz.prog.underlying t = some (.struct fs)) (hB : uptoBulk x.1 ≤ Bd) (h : DataW.trod enc Tryz.prog W base sp true n t cs = some x) :
    cs.length = Tryz.prog.cellsOf t ∧ ∃ m, ∀ (i : Nat) (f : Field), fs[i]? = some f → ∃ y, DataW.trod enc Tryz.prog W base sp true m f.type ((cs.drop f.offset).take (Tryz.prog.cellsOf f.type)) = some y ∧ uptoBulk y.1 ≤ Bd := by
  obtain ⟨xs, m, _, rfl, h1, h2, h3⟩ := DataW.trod_struct ht h
  refine ⟨h1, m, fun i f hf => ?_⟩
  have hi : i < fs.size := (Array.getElem?_eq_some_iff.1 hf).1
  refine ⟨xs[i], by rw [h3 i f hf]; exact List.getElem?_eq_getElem (by omega), ?_⟩
  simp only [uptoBulk] at hB
  have := bulk_mem (d := xs[i].1) (l := xs.map (·.1)) (List.mem_map.2 ⟨xs[i], List.getElem_mem _, rfl⟩)
  omega
end
theorem Els.mem {α : Type} {k : Nat} {P : α → List Value → Prop} : ∀ {l : List α} {vs : List Value}, Els k P l vs → ∀ x ∈ l, ∃ v, P x v
  | y :: l, _, ⟨v, r, _, _, hp, h⟩, x, hx => by
    rcases List.mem_cons.1 hx with rfl | hx
    · exact ⟨v, hp⟩
    · exact Els.mem h x hx
theorem Arr.mem {α : Type} {k : Nat} {P : α → List Value → Prop} {S : Nat → Prop} {w : World} {A : Option Addr} {n c : Nat} {l : List α} (h : Arr k P S w A n c l) : ∀ x ∈ l, ∃ v, P x v := by
  obtain ⟨_, _, _, vs, h1, _⟩ := h
  exact h1.mem
section
variable {H : Type} {enc : TypeId × Value → H} {W : World} {r : Reach} {b0 : Nat} {v : Value} {d : DataW H} {p : List MemPlace} {Bd : Nat}
theorem arr_of_argB {α : Type} {k : Nat} {P : α → List Value → Prop} {R : α → Prop} {t e : TypeId} (ht : Tryz.prog.underlying t = some (.slice e)) (hk : Tryz.prog.cellsOf e = k) (hk0 : 0 < k)
    (hel : ∀ n cs x, uptoBulk x.1 ≤ Bd → DataW.trod enc Tryz.prog W 0 (fun _ => true) true n e cs = some x → ∃ y : α, P y cs ∧ R y)
    (hval : Value.okWide Tryz.prog W r b0 t v) (h : DataW.Trod enc Tryz.prog W 0 (fun _ => true) true t v d p) (hB : uptoBulk d ≤ Bd) : ∃ A n c l, v = .slice A n c ∧ Arr k P (fun _ => True) W A n c l ∧ n ≤ Bd ∧ ∀ x ∈ l, R x := by
  obtain ⟨a0, len0, cap0, rfl⟩ := okWide_slice ht hval
  obtain ⟨fuel, hf⟩ := h
  obtain ⟨A, n, c, l, he, ha, hn⟩ := arr_of_trodB (P := fun y v => P y v ∧ R y) ht hk hk0 hel hB hf
  have hc : [Value.slice a0 len0 cap0] = [Value.slice A n c] := he
  injection hc with hc
  exact ⟨A, n, c, l, hc, ha.imp fun _ _ _ h => h.1, hn, fun x hx => by obtain ⟨v, _, h⟩ := ha.mem x hx; exact h⟩
end
end Go.Proofs.Sb
