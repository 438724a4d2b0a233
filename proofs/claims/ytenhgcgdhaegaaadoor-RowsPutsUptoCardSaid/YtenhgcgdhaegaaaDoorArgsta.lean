/- Tables as arguments, opened. No conditions. (written by gen_argsta.py) -/
import Derived.Test.YtenhgcgdhaegaaaDoorArgso
import Derived.Test.YtenhgcgdhaegaaaDoorTal
set_option linter.unusedVariables false
set_option linter.unusedSimpArgs false
namespace Sb
/-- how long the values of a table are -/
structure TbB (Bd : Nat) (t : Tb) : Prop where
  st : t.state.bytes.length ≤ Bd
  rs : ∀ l ∈ t.rows, ∀ v ∈ l, v.bytes.length ≤ Bd
end Sb
namespace Go.Proofs.Sb
open Go.RowKit _root_.Sb
open Go.ChangeShapes Go.WideShapes Go.ChangeAt
open Go.Proofs.YtenhgcgdhaegaaaDoor
open Go.Proofs.YtenhgcgdhaegaaaDoor.Rows (uptoBulk uptoBulkAll uptoSmall)
set_option maxRecDepth 100000
theorem colP.le {M d d' : Nat} {S : Nat → Prop} {w : World} {x : Col} {c : List Value} (h : colP M d S w x c) (hd : d ≤ d') : colP M d' S w x c := by
  obtain ⟨A, n, k, A2, n2, k2, e, h1, h2, h3, h4⟩ := h
  exact ⟨A, n, k, A2, n2, k2, e, h1, h2, h3, h4.up hd⟩
theorem Els.commonC {S : Nat → Prop} {W : World} {M : Nat} : ∀ {l : List Col} {vs : List Value}, Els 8 (fun o v => ∃ d, colP M d S W o v) l vs → ∃ D, Els 8 (colP M D S W) l vs
  | [], vs, h => ⟨0, h⟩
  | x :: l, vs, ⟨v, r, h1, h2, ⟨d, hd⟩, h⟩ => by
    obtain ⟨D, hD⟩ := Els.commonC h
    exact ⟨max d D, v, r, h1, h2, hd.le (Nat.le_max_left _ _), hD.imp fun _ _ _ h => h.le (Nat.le_max_right _ _)⟩
theorem Arr.commonC {S T : Nat → Prop} {W : World} {M : Nat} {A : Option Addr} {n c : Nat} {l : List Col} (h : Arr 8 (fun o v => ∃ d, colP M d S W o v) T W A n c l) : ∃ D, Arr 8 (colP M D S W) T W A n c l := by
  obtain ⟨h1, h2, h3, vs, h4, h5⟩ := h
  obtain ⟨D, hD⟩ := h4.commonC
  exact ⟨D, h1, h2, h3, vs, hD, h5⟩
section
variable {H : Type} {enc : TypeId × Value → H} {W : World} {Bd : Nat}
theorem tval_elt {n : Nat} {cs : List Value} {x : DataW H × List MemPlace} (h : DataW.trod enc Tryd.prog W 0 (fun _ => true) true n 26 cs = some x) : ∃ y : Val, valP (fun _ => True) W y cs := by
  obtain ⟨hl, m2, hf⟩ := field_of Tryd.underlying26 h
  have hl2 : cs.length = 2 := hl.trans (by kernel_rfl)
  obtain ⟨y2, h2⟩ := hf 0 _ rfl
  obtain ⟨y3, h3⟩ := hf 1 _ rfl
  obtain ⟨k, e2, _⟩ := DataW.trod_int Tryd.underlying3 h2
  obtain ⟨A, n1, c, bs, e3, ha⟩ := bytes_elt h3
  have c3 : Tryd.prog.cellsOf 3 = 1 := by kernel_rfl
  have c4 : Tryd.prog.cellsOf 22 = 1 := by kernel_rfl
  match cs, hl2 with
  | [a, b], _ =>
    simp [c3, c4] at e2 e3
    subst e2 e3
    exact ⟨⟨k, bs⟩, ⟨A, n1, c, rfl, ha⟩⟩
theorem trow_elt {n : Nat} {cs : List Value} {x : DataW H × List MemPlace} (h : DataW.trod enc Tryd.prog W 0 (fun _ => true) true n 65 cs = some x) : ∃ y : List Val, vrowP (fun _ => True) W y cs := by
  obtain ⟨A, n, c, l, he, ha⟩ := arr_of_trod (k := 2) (P := fun y v => valP (fun _ => True) W y v) Tryd.underlying65 (by kernel_rfl) (by decide) (fun _ _ _ h => tval_elt h) h
  exact ⟨l, A, n, c, he, ha⟩
theorem tcol_elt {n : Nat} {cs : List Value} {x : DataW H × List MemPlace} (h : DataW.trod enc Tryd.prog W 0 (fun _ => true) true n 64 cs = some x) : ∃ y : Col, ∃ d, colP 9223372036854775807 d (fun _ => True) W y cs := by
  obtain ⟨hl, m2, hf⟩ := field_of Tryd.underlying64 h
  have hl2 : cs.length = 8 := hl.trans (by kernel_rfl)
  obtain ⟨y0, h0⟩ := hf 0 _ rfl
  obtain ⟨y1, h1⟩ := hf 1 _ rfl
  obtain ⟨y2, h2⟩ := hf 2 _ rfl
  obtain ⟨y3, h3⟩ := hf 3 _ rfl
  obtain ⟨j0, e0, l0⟩ := str_elt h0
  obtain ⟨j1, e1, l1⟩ := str_elt h1
  obtain ⟨j2, e2, l2⟩ := str_elt h2
  obtain ⟨D, o, ho⟩ := opt_eltQ (M := 9223372036854775807) (fun _ => True) (fun _ _ h => h) (fun _ _ _ _ => trivial) (fun _ _ _ _ _ => trivial) _ (Nat.lt_succ_self _) trivial h3
  obtain ⟨D2, A1, n1, c1, A2, n2, c2, rfl, hv, hR⟩ := ho.open
  have q0 : Tryd.prog.cellsOf 9 = 1 := by kernel_rfl
  have q1 : Tryd.prog.cellsOf 62 = 5 := by kernel_rfl
  match cs, hl2 with
  | [u0, u1, u2, u3, u4, u5, u6, u7], _ =>
    simp [q0, q1] at e0 e1 e2 hv
    obtain ⟨v0, v1, v2, v3, v4⟩ := hv
    subst e0 e1 e2 v0 v1 v2 v3 v4
    exact ⟨⟨j0, j1, j2, o⟩, D2, A1, n1, c1, A2, n2, c2, rfl, l0, l1, l2, hR⟩
theorem tb_elt {n : Nat} {cs : List Value} {x : DataW H × List MemPlace} (h : DataW.trod enc Tryd.prog W 0 (fun _ => true) true n 29 cs = some x) : ∃ (t : Tb) (D : Nat) (c d q : Pl3), cs = tabV t c d q ∧ TbR 9223372036854775807 D (fun _ => True) W c d q t := by
  obtain ⟨hl, m2, hf⟩ := field_of Tryd.underlying29 h
  have hl2 : cs.length = 6 := hl.trans (by kernel_rfl)
  obtain ⟨y0, h0⟩ := hf 0 _ rfl
  obtain ⟨y1, h1⟩ := hf 1 _ rfl
  obtain ⟨y2, h2⟩ := hf 2 _ rfl
  obtain ⟨y3, h3⟩ := hf 3 _ rfl
  obtain ⟨y4, h4⟩ := hf 4 _ rfl
  obtain ⟨k0, e0, _⟩ := DataW.trod_int Tryd.underlying3 h0
  obtain ⟨A1, n1, c1, l1, e1, ha1⟩ := arr_of_trod (k := 8) (P := fun y v => ∃ d, colP 9223372036854775807 d (fun _ => True) W y v) Tryd.underlying24 (by kernel_rfl) (by decide) (fun _ _ _ h => tcol_elt h) h1
  obtain ⟨D, hD⟩ := ha1.commonC
  obtain ⟨k2, e2, _⟩ := DataW.trod_bool Tryd.underlying4 h2
  obtain ⟨v3, hv3⟩ := tval_elt h3
  obtain ⟨A3, n3, c3, e3, ha3⟩ := hv3
  obtain ⟨A4, n4, c4, l4, e4, ha4⟩ := arr_of_trod (k := 1) (P := fun y v => vrowP (fun _ => True) W y v) Tryd.underlying27 (by kernel_rfl) (by decide) (fun _ _ _ h => trow_elt h) h4
  have q0 : Tryd.prog.cellsOf 3 = 1 := by kernel_rfl
  have q1 : Tryd.prog.cellsOf 24 = 1 := by kernel_rfl
  have q2 : Tryd.prog.cellsOf 4 = 1 := by kernel_rfl
  have q3 : Tryd.prog.cellsOf 26 = 2 := by kernel_rfl
  have q4 : Tryd.prog.cellsOf 27 = 1 := by kernel_rfl
  match cs, hl2 with
  | [u0, u1, u2, u3, u4, u5], _ =>
    simp [q0, q1, q2, q3, q4] at e0 e1 e2 e3 e4
    obtain ⟨v0, v1⟩ := e3
    subst e0 e1 e2 v0 v1 e4
    exact ⟨⟨k0, l1, k2, v3, l4⟩, D, (A1, n1, c1), (A3, n3, c3), (A4, n4, c4), rfl, ⟨hD, ha3, ha4⟩⟩
theorem tval_eltB {n : Nat} {cs : List Value} {x : DataW H × List MemPlace} (hB : uptoBulk x.1 ≤ Bd) (h : DataW.trod enc Tryd.prog W 0 (fun _ => true) true n 26 cs = some x) : ∃ y : Val, valP (fun _ => True) W y cs ∧ y.bytes.length ≤ Bd := by
  obtain ⟨hl, m2, hf⟩ := field_ofB Tryd.underlying26 hB h
  have hl2 : cs.length = 2 := hl.trans (by kernel_rfl)
  obtain ⟨y2, h2, b2⟩ := hf 0 _ rfl
  obtain ⟨y3, h3, b3⟩ := hf 1 _ rfl
  obtain ⟨k, e2, _⟩ := DataW.trod_int Tryd.underlying3 h2
  obtain ⟨A, n1, c, bs, e3, ha, k3⟩ := bytes_eltB b3 h3
  have c3 : Tryd.prog.cellsOf 3 = 1 := by kernel_rfl
  have c4 : Tryd.prog.cellsOf 22 = 1 := by kernel_rfl
  match cs, hl2 with
  | [a, b], _ =>
    simp [c3, c4] at e2 e3
    subst e2 e3
    exact ⟨⟨k, bs⟩, ⟨A, n1, c, rfl, ha⟩, k3⟩
theorem trow_eltB {n : Nat} {cs : List Value} {x : DataW H × List MemPlace} (hB : uptoBulk x.1 ≤ Bd) (h : DataW.trod enc Tryd.prog W 0 (fun _ => true) true n 65 cs = some x) : ∃ y : List Val, vrowP (fun _ => True) W y cs ∧ ∀ u ∈ y, u.bytes.length ≤ Bd := by
  obtain ⟨A, n, c, l, he, ha, _⟩ := arr_of_trodB (k := 2) (P := fun y v => valP (fun _ => True) W y v ∧ y.bytes.length ≤ Bd) Tryd.underlying65 (by kernel_rfl) (by decide) (fun _ _ _ hb h => tval_eltB hb h) hB h
  exact ⟨l, ⟨A, n, c, he, ha.imp fun _ _ _ h => h.1⟩, fun x hx => by obtain ⟨v, _, h⟩ := ha.mem x hx; exact h⟩
theorem tcol_eltB {n : Nat} {cs : List Value} {x : DataW H × List MemPlace} (hM : Bd ≤ 9223372036854775807) (hB : uptoBulk x.1 ≤ Bd) (h : DataW.trod enc Tryd.prog W 0 (fun _ => true) true n 64 cs = some x) : ∃ y : Col, ∃ d, colP Bd d (fun _ => True) W y cs := by
  obtain ⟨hl, m2, hf⟩ := field_ofB Tryd.underlying64 hB h
  have hl2 : cs.length = 8 := hl.trans (by kernel_rfl)
  obtain ⟨y0, h0, b0⟩ := hf 0 _ rfl
  obtain ⟨y1, h1, b1⟩ := hf 1 _ rfl
  obtain ⟨y2, h2, b2⟩ := hf 2 _ rfl
  obtain ⟨y3, h3, b3⟩ := hf 3 _ rfl
  obtain ⟨j0, ⟨e0, l0⟩, z0⟩ := str_eltB b0 h0
  obtain ⟨j1, ⟨e1, l1⟩, z1⟩ := str_eltB b1 h1
  obtain ⟨j2, ⟨e2, l2⟩, z2⟩ := str_eltB b2 h2
  obtain ⟨D, o, ho⟩ := opt_eltQ (M := Bd) (fun d => uptoBulk d ≤ Bd) (fun l h _ => by simp [uptoBulk] at h; omega) (fun ps h d hd => by simp only [uptoBulk] at h; have := bulk_mem hd; omega) (fun e s h d hd => bulk_slice h e s rfl d hd) _ (Nat.lt_succ_self _) b3 h3
  obtain ⟨D2, A1, n1, c1, A2, n2, c2, rfl, hv, hR⟩ := ho.open
  have q0 : Tryd.prog.cellsOf 9 = 1 := by kernel_rfl
  have q1 : Tryd.prog.cellsOf 62 = 5 := by kernel_rfl
  match cs, hl2 with
  | [u0, u1, u2, u3, u4, u5, u6, u7], _ =>
    simp [q0, q1] at e0 e1 e2 hv
    obtain ⟨v0, v1, v2, v3, v4⟩ := hv
    subst e0 e1 e2 v0 v1 v2 v3 v4
    exact ⟨⟨j0, j1, j2, o⟩, D2, A1, n1, c1, A2, n2, c2, rfl, z0, z1, z2, hR⟩
theorem tb_eltB {n : Nat} {cs : List Value} {x : DataW H × List MemPlace} (hM : Bd ≤ 9223372036854775807) (hB : uptoBulk x.1 ≤ Bd) (h : DataW.trod enc Tryd.prog W 0 (fun _ => true) true n 29 cs = some x) : ∃ (t : Tb) (D : Nat) (c d q : Pl3), cs = tabV t c d q ∧ TbR Bd D (fun _ => True) W c d q t ∧ TbB Bd t := by
  obtain ⟨hl, m2, hf⟩ := field_ofB Tryd.underlying29 hB h
  have hl2 : cs.length = 6 := hl.trans (by kernel_rfl)
  obtain ⟨y0, h0, b0⟩ := hf 0 _ rfl
  obtain ⟨y1, h1, b1⟩ := hf 1 _ rfl
  obtain ⟨y2, h2, b2⟩ := hf 2 _ rfl
  obtain ⟨y3, h3, b3⟩ := hf 3 _ rfl
  obtain ⟨y4, h4, b4⟩ := hf 4 _ rfl
  obtain ⟨k0, e0, _⟩ := DataW.trod_int Tryd.underlying3 h0
  obtain ⟨A1, n1, c1, l1, e1, ha1, _⟩ := arr_of_trodB (k := 8) (P := fun y v => ∃ d, colP Bd d (fun _ => True) W y v) Tryd.underlying24 (by kernel_rfl) (by decide) (fun _ _ _ hb h => tcol_eltB hM hb h) b1 h1
  obtain ⟨D, hD⟩ := ha1.commonC
  obtain ⟨k2, e2, _⟩ := DataW.trod_bool Tryd.underlying4 h2
  obtain ⟨v3, hv3, z3⟩ := tval_eltB b3 h3
  obtain ⟨A3, n3, c3, e3, ha3⟩ := hv3
  obtain ⟨A4, n4, c4, l4, e4, ha4, _⟩ := arr_of_trodB (k := 1) (P := fun y v => vrowP (fun _ => True) W y v ∧ ∀ u ∈ y, u.bytes.length ≤ Bd) Tryd.underlying27 (by kernel_rfl) (by decide) (fun _ _ _ hb h => trow_eltB hb h) b4 h4
  have q0 : Tryd.prog.cellsOf 3 = 1 := by kernel_rfl
  have q1 : Tryd.prog.cellsOf 24 = 1 := by kernel_rfl
  have q2 : Tryd.prog.cellsOf 4 = 1 := by kernel_rfl
  have q3 : Tryd.prog.cellsOf 26 = 2 := by kernel_rfl
  have q4 : Tryd.prog.cellsOf 27 = 1 := by kernel_rfl
  match cs, hl2 with
  | [u0, u1, u2, u3, u4, u5], _ =>
    simp [q0, q1, q2, q3, q4] at e0 e1 e2 e3 e4
    obtain ⟨v0, v1⟩ := e3
    subst e0 e1 e2 v0 v1 e4
    exact ⟨⟨k0, l1, k2, v3, l4⟩, D, (A1, n1, c1), (A3, n3, c3), (A4, n4, c4), rfl, ⟨hD, ha3, ha4.imp fun _ _ _ h => h.1⟩, ⟨z3, fun x hx => by obtain ⟨v, _, h⟩ := ha4.mem x hx; exact h⟩⟩
end
section
variable {H : Type} {enc : TypeId × Value → H} {W : World} {r : Reach} {b0 : Nat} {v : Value} {d : DataW H} {p : List MemPlace} {Bd : Nat}
theorem tb_of (hval : Value.okWide Tryd.prog W r b0 29 v) (h : DataW.Trod enc Tryd.prog W 0 (fun _ => true) true 29 v d p) :
    ∃ (t : Tb) (D : Nat) (c d q : Pl3), v = .agg (tabV t c d q).toArray ∧ TbR 9223372036854775807 D (fun _ => True) W c d q t := by
  obtain ⟨cs, rfl, _⟩ := okWide_struct Tryd.underlying29 hval
  obtain ⟨fuel, hf⟩ := h
  obtain ⟨t, D, c, d, q, he, hR⟩ := tb_elt hf
  have he : cs.toList = _ := he
  exact ⟨t, D, c, d, q, by rw [← he], hR⟩
theorem tb_ofB (hM : Bd ≤ 9223372036854775807) (hval : Value.okWide Tryd.prog W r b0 29 v) (h : DataW.Trod enc Tryd.prog W 0 (fun _ => true) true 29 v d p) (hB : uptoBulk d ≤ Bd) :
    ∃ (t : Tb) (D : Nat) (c d q : Pl3), v = .agg (tabV t c d q).toArray ∧ TbR Bd D (fun _ => True) W c d q t ∧ TbB Bd t := by
  obtain ⟨cs, rfl, _⟩ := okWide_struct Tryd.underlying29 hval
  obtain ⟨fuel, hf⟩ := h
  obtain ⟨t, D, c, d, q, he, hR, hb⟩ := tb_eltB hM hB hf
  have he : cs.toList = _ := he
  exact ⟨t, D, c, d, q, by rw [← he], hR, hb⟩
end
end Go.Proofs.Sb
