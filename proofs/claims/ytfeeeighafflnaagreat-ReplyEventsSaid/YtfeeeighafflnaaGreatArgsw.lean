/- Arguments within the form's reach, opened: no part weighs more than the reach. No conditions. (written by gen_argsw.py) -/
import Derived.Test.YtfeeeighafflnaaGreatArgsy
import Derived.SizedLaws
set_option linter.unusedVariables false
set_option linter.unusedSimpArgs false
namespace Go.Proofs.Sb
open Go.RowKit _root_.Sb
open Go.ChangeShapes Go.WideShapes Go.ChangeAt
set_option maxRecDepth 100000
section
variable {H : Type}
/-- each string, slice, map in a datum lies within the reach -/
def Wt (t : TypeId) (d : DataW H) : Prop := ∀ n ∈ d.weights Tryz.prog t, n ≤ 140737488351232
theorem wt_arg {ts : List TypeId} {ds : List (DataW H)} (h : (DataW.weightsEach Tryz.prog ts ds).all (· ≤ reachBytes) = true) {j : Nat} {t : TypeId} {d : DataW H} (ht : ts[j]? = some t) (hd : ds[j]? = some d) : Wt t d := fun n hn => by
  have := List.all_eq_true.1 h _ (DataW.weights_mem_each ht hd n hn)
  have h2 : n ≤ reachBytes := of_decide_eq_true this
  exact h2
theorem wAll_mem {e : TypeId} : ∀ {l : List (DataW H)} {d : DataW H}, d ∈ l → ∀ n ∈ d.weights Tryz.prog e, n ∈ DataW.weightsAll Tryz.prog e l
  | x :: r, d, h, n, hn => by
    simp only [DataW.weightsAll, List.mem_append]
    rcases List.mem_cons.1 h with rfl | h
    · exact .inl hn
    · exact .inr (wAll_mem h n hn)
theorem wt_slice {t e : TypeId} {els spare : List (DataW H)} (ht : Tryz.prog.underlying t = some (.slice e)) (h : Wt t (.slice els spare)) : (∀ d ∈ els, Wt e d) ∧ (els.length + spare.length) * Tryz.prog.bytesOf e ≤ 140737488351232 := by
  refine ⟨fun d hd n hn => h n ?_, h _ ?_⟩
  · simp only [DataW.weights, ht, List.mem_cons, List.mem_append]
    exact .inr (.inl (wAll_mem hd n hn))
  · simp only [DataW.weights, ht, List.mem_cons]
    exact .inl trivial
end
section
variable {H : Type} {enc : TypeId × Value → H} {W : World} {base : Nat} {sp : Nat → Bool}
theorem str_eltW {n : Nat} {cs : List Value} {x : DataW H × List MemPlace} (hB : Wt 9 x.1) (h : DataW.trod enc Tryz.prog W base sp true n 9 cs = some x) : ∃ y, strP y cs ∧ y.length ≤ 140737488351232 := by
  obtain ⟨s, rfl, rfl, hs⟩ := DataW.trod_string Tryz.underlying9 h
  obtain ⟨bs, rfl⟩ := str_ex s
  rw [str_size] at hs
  unfold maxLen at hs
  simp [Wt, DataW.weights, str] at hB
  exact ⟨bs, ⟨rfl, by omega⟩, by omega⟩
theorem arr_of_trodW {α : Type} {k : Nat} {P : α → List Value → Prop} {t e : TypeId} (ht : Tryz.prog.underlying t = some (.slice e)) (hk : Tryz.prog.cellsOf e = k) (hk0 : 0 < k) (hb1 : 0 < Tryz.prog.bytesOf e)
    (hel : ∀ n cs x, Wt e x.1 → DataW.trod enc Tryz.prog W base sp true n e cs = some x → ∃ y : α, P y cs)
    {fuel : Nat} {cs : List Value} {x : DataW H × List MemPlace} (hB : Wt t x.1) (hf : DataW.trod enc Tryz.prog W base sp true fuel t cs = some x) :
    ∃ A n c l, cs = [.slice A n c] ∧ Arr k P (fun _ => True) W A n c l ∧ n ≤ 140737488351232 := by
  obtain ⟨A, n, c, l, rfl, ha⟩ := arr_of_trodQ ht hk hk0 (fun d => Wt e d) hel (fun els spare e2 d hd => by rw [e2] at hB; exact (wt_slice ht hB).1 d hd) hf
  refine ⟨A, n, c, l, rfl, ha, ?_⟩
  rcases Go.Deep.open_slice ht hf with ⟨h1, rfl⟩ | ⟨a, len, cap, m, n2, D, Pl, h1, hb, hl, hm, hmm, rfl, hx⟩
  · injection h1 with h1; injection h1 with _ h1; omega
  · injection h1 with h1
    injection h1 with _ h1
    have := Nat.le_trans (Nat.le_mul_of_pos_right _ hb1) (wt_slice ht hB).2
    rw [List.length_map, List.length_range] at this
    omega
theorem bytes_eltW {n : Nat} {cs : List Value} {x : DataW H × List MemPlace} (hB : Wt 25 x.1) (h : DataW.trod enc Tryz.prog W 0 (fun _ => true) true n 25 cs = some x) : ∃ A n c bs, cs = [.slice A n c] ∧ Sl (fun _ => True) W A n c bs ∧ bs.length ≤ 140737488351232 := by
  obtain ⟨A, n, c, bs, rfl, hs⟩ := bytes_elt h
  refine ⟨A, n, c, bs, rfl, hs, ?_⟩
  have hl := hs.len
  have hb1 : 0 < Tryz.prog.bytesOf 5 := of_decide_eq_true (by kernel_rfl)
  rcases Go.Deep.open_slice Tryz.underlying25 h with ⟨h1, rfl⟩ | ⟨a, len, cap, m, n2, D, Pl, h1, hb, hl2, hm, hmm, rfl, hx⟩
  · injection h1 with h1; injection h1 with _ h1; omega
  · injection h1 with h1
    injection h1 with _ h1
    have := Nat.le_trans (Nat.le_mul_of_pos_right _ hb1) (wt_slice Tryz.underlying25 hB).2
    rw [List.length_map, List.length_range] at this
    omega
theorem field_ofW {t : TypeId} {fs : Array Field} {n : Nat} {cs : List Value} {x : DataW H × List MemPlace} (ht : Tryz.prog.underlying t = some (.struct fs)) (hB : Wt t x.1) (h : DataW.trod enc Tryz.prog W base sp true n t cs = some x) :
    cs.length = Tryz.prog.cellsOf t ∧ ∃ m, ∀ (i : Nat) (f : Field), fs[i]? = some f → ∃ y, DataW.trod enc Tryz.prog W base sp true m f.type ((cs.drop f.offset).take (Tryz.prog.cellsOf f.type)) = some y ∧ Wt f.type y.1 := by
  obtain ⟨xs, m, _, rfl, h1, h2, h3⟩ := DataW.trod_struct ht h
  refine ⟨h1, m, fun i f hf => ?_⟩
  have hi : i < fs.size := (Array.getElem?_eq_some_iff.1 hf).1
  have hi2 : i < xs.length := by omega
  refine ⟨xs[i], by rw [h3 i f hf]; exact List.getElem?_eq_getElem hi2, ?_⟩
  intro q hq
  refine hB q ?_
  simp only [DataW.weights, ht]
  exact DataW.weights_mem_each (j := i) (by simp [hf]) (by simp [List.getElem?_eq_getElem hi2]) q hq
theorem arr_of_argW {r : Reach} {b0 : Nat} {v : Value} {d : DataW H} {p : List MemPlace} {α : Type} {k : Nat} {P : α → List Value → Prop} {R : α → Prop} {t e : TypeId} (ht : Tryz.prog.underlying t = some (.slice e)) (hk : Tryz.prog.cellsOf e = k) (hk0 : 0 < k) (hb1 : 0 < Tryz.prog.bytesOf e)
    (hel : ∀ n cs x, Wt e x.1 → DataW.trod enc Tryz.prog W 0 (fun _ => true) true n e cs = some x → ∃ y : α, P y cs ∧ R y)
    (hval : Value.okWide Tryz.prog W r b0 t v) (h : DataW.Trod enc Tryz.prog W 0 (fun _ => true) true t v d p) (hB : Wt t d) : ∃ A n c l, v = .slice A n c ∧ Arr k P (fun _ => True) W A n c l ∧ n ≤ 140737488351232 ∧ ∀ x ∈ l, R x := by
  obtain ⟨a0, len0, cap0, rfl⟩ := okWide_slice ht hval
  obtain ⟨fuel, hf⟩ := h
  obtain ⟨A, n, c, l, he, ha, hn⟩ := arr_of_trodW (P := fun y v => P y v ∧ R y) ht hk hk0 hb1 hel hB hf
  have hc : [Value.slice a0 len0 cap0] = [Value.slice A n c] := he
  injection hc with hc
  exact ⟨A, n, c, l, hc, ha.imp fun _ _ _ h => h.1, hn, fun x hx => by obtain ⟨v, _, h⟩ := ha.mem x hx; exact h⟩
theorem Arr.mem_of {α : Type} {k : Nat} {P : α → List Value → Prop} {S : Nat → Prop} {w : World} {A : Option Addr} {n c : Nat} {l : List α} (h : Arr k P S w A n c l) : ∀ x ∈ l, ∃ v, P x v := h.mem
end
section
variable {H : Type} {enc : TypeId × Value → H} {W : World}
theorem strs_eltW {n : Nat} {cs : List Value} {x : DataW H × List MemPlace} (hB : Wt 24 x.1) (h : DataW.trod enc Tryz.prog W 0 (fun _ => true) true n 24 cs = some x) : ∃ A n c l, cs = [.slice A n c] ∧ Arr 1 strP (fun _ => True) W A n c l ∧ l.length ≤ 140737488351232 := by
  obtain ⟨A, n, c, l, he, ha, hn⟩ := arr_of_trodW (k := 1) (P := strP) Tryz.underlying24 (by kernel_rfl) (by decide) (of_decide_eq_true (by kernel_rfl)) (fun _ _ _ hb h => by obtain ⟨y, h1, _⟩ := str_eltW hb h; exact ⟨y, h1⟩) hB h
  exact ⟨A, n, c, l, he, ha, by have := ha.len; omega⟩
theorem val_eltW {n : Nat} {cs : List Value} {x : DataW H × List MemPlace} (hB : Wt 32 x.1) (h : DataW.trod enc Tryz.prog W 0 (fun _ => true) true n 32 cs = some x) : ∃ (y : Val) (A : Option Addr) (n c : Nat), cs = [.int .i64 y.kind, .slice A n c] ∧ Sl (fun _ => True) W A n c y.bytes ∧ y.bytes.length ≤ 140737488351232 := by
  obtain ⟨hl, m2, hf⟩ := field_ofW Tryz.underlying32 hB h
  have hl2 : cs.length = 2 := hl.trans (by kernel_rfl)
  obtain ⟨y0, h0, b0⟩ := hf 0 _ rfl
  obtain ⟨y1, h1, b1⟩ := hf 1 _ rfl
  obtain ⟨j0, e0, _⟩ := DataW.trod_int Tryz.underlying3 h0
  obtain ⟨A1, n1, c1, j1, e1, ha1, z1⟩ := bytes_eltW b1 h1
  have q0 : Tryz.prog.cellsOf 3 = 1 := by kernel_rfl
  have q1 : Tryz.prog.cellsOf 25 = 1 := by kernel_rfl
  match cs, hl2 with
  | [u0, u1], _ =>
    simp [q0, q1] at e0 e1
    subst e0 e1
    exact ⟨⟨j0, j1⟩, A1, n1, c1, rfl, ha1, z1⟩
theorem inet_eltW {n : Nat} {cs : List Value} {x : DataW H × List MemPlace} (hB : Wt 34 x.1) (h : DataW.trod enc Tryz.prog W 0 (fun _ => true) true n 34 cs = some x) : ∃ (y : Adr) (A : Option Addr) (n c : Nat), cs = [.slice A n c, .int .u32 ((y.port : Nat) : Int)] ∧ Sl (fun _ => True) W A n c y.addr ∧ y.addr.length ≤ 140737488351232 ∧ y.port < 4294967296 := by
  obtain ⟨hl, m2, hf⟩ := field_ofW Tryz.underlying34 hB h
  have hl2 : cs.length = 2 := hl.trans (by kernel_rfl)
  obtain ⟨y0, h0, b0⟩ := hf 0 _ rfl
  obtain ⟨y1, h1, b1⟩ := hf 1 _ rfl
  obtain ⟨A0, n0, c0, j0, e0, ha0, z0⟩ := bytes_eltW b0 h0
  obtain ⟨k1, e1, _, w1⟩ := DataW.trod_int Tryz.underlying22 h1
  obtain ⟨j1, rfl, z1⟩ := wf_u32 w1
  have q0 : Tryz.prog.cellsOf 25 = 1 := by kernel_rfl
  have q1 : Tryz.prog.cellsOf 22 = 1 := by kernel_rfl
  match cs, hl2 with
  | [u0, u1], _ =>
    simp [q0, q1] at e0 e1
    subst e0 e1
    exact ⟨⟨j0, j1⟩, A0, n0, c0, rfl, ha0, z0, z1⟩
theorem chg_eltW {n : Nat} {cs : List Value} {x : DataW H × List MemPlace} (hB : Wt 36 x.1) (h : DataW.trod enc Tryz.prog W 0 (fun _ => true) true n 36 cs = some x) : ∃ (y : Chg) (A : Option Addr) (n c : Nat), cs = [.string (str y.what), .string (str y.target), .string (str y.space), .string (str y.name), .slice A n c] ∧ Arr 1 strP (fun _ => True) W A n c y.args ∧ ChgB y ∧ y.args.length ≤ 140737488351232 := by
  obtain ⟨hl, m2, hf⟩ := field_ofW Tryz.underlying36 hB h
  have hl2 : cs.length = 5 := hl.trans (by kernel_rfl)
  obtain ⟨y0, h0, b0⟩ := hf 0 _ rfl
  obtain ⟨y1, h1, b1⟩ := hf 1 _ rfl
  obtain ⟨y2, h2, b2⟩ := hf 2 _ rfl
  obtain ⟨y3, h3, b3⟩ := hf 3 _ rfl
  obtain ⟨y4, h4, b4⟩ := hf 4 _ rfl
  obtain ⟨j0, ⟨e0, l0⟩, z0⟩ := str_eltW b0 h0
  obtain ⟨j1, ⟨e1, l1⟩, z1⟩ := str_eltW b1 h1
  obtain ⟨j2, ⟨e2, l2⟩, z2⟩ := str_eltW b2 h2
  obtain ⟨j3, ⟨e3, l3⟩, z3⟩ := str_eltW b3 h3
  obtain ⟨A4, n4, c4, j4, e4, ha4, z4⟩ := strs_eltW b4 h4
  have q0 : Tryz.prog.cellsOf 9 = 1 := by kernel_rfl
  have q1 : Tryz.prog.cellsOf 24 = 1 := by kernel_rfl
  match cs, hl2 with
  | [u0, u1, u2, u3, u4], _ =>
    simp [q0, q1] at e0 e1 e2 e3 e4
    subst e0 e1 e2 e3 e4
    exact ⟨⟨j0, j1, j2, j3, j4⟩, A4, n4, c4, rfl, ha4, ⟨l0, l1, l2, l3⟩, z4⟩
theorem flt_eltW {n : Nat} {cs : List Value} {x : DataW H × List MemPlace} (hB : Wt 27 x.1) (h : DataW.trod enc Tryz.prog W 0 (fun _ => true) true n 27 cs = some x) : ∃ (y : Flt) (A : Option Addr) (n c : Nat) (A2 : Option Addr) (n2 c2 : Nat), cs = fltV y (.slice A n c) (.slice A2 n2 c2) ∧ Arr 1 strP (fun _ => True) W A n c y.args ∧ Sl (fun _ => True) W A2 n2 c2 y.ident ∧ FltB y ∧ y.args.length ≤ 140737488351232 ∧ y.ident.length ≤ 140737488351232 := by
  obtain ⟨hl, m2, hf⟩ := field_ofW Tryz.underlying27 hB h
  have hl2 : cs.length = 12 := hl.trans (by kernel_rfl)
  obtain ⟨y0, h0, b0⟩ := hf 0 _ rfl
  obtain ⟨y1, h1, b1⟩ := hf 1 _ rfl
  obtain ⟨y2, h2, b2⟩ := hf 2 _ rfl
  obtain ⟨y3, h3, b3⟩ := hf 3 _ rfl
  obtain ⟨y4, h4, b4⟩ := hf 4 _ rfl
  obtain ⟨y5, h5, b5⟩ := hf 5 _ rfl
  obtain ⟨y6, h6, b6⟩ := hf 6 _ rfl
  obtain ⟨y7, h7, b7⟩ := hf 7 _ rfl
  obtain ⟨y8, h8, b8⟩ := hf 8 _ rfl
  obtain ⟨y9, h9, b9⟩ := hf 9 _ rfl
  obtain ⟨y10, h10, b10⟩ := hf 10 _ rfl
  obtain ⟨y11, h11, b11⟩ := hf 11 _ rfl
  obtain ⟨k0, e0, _, w0⟩ := DataW.trod_int Tryz.underlying22 h0
  obtain ⟨j0, rfl, z0⟩ := wf_u32 w0
  obtain ⟨j1, ⟨e1, l1⟩, z1⟩ := str_eltW b1 h1
  obtain ⟨k2, e2, _, w2⟩ := DataW.trod_int Tryz.underlying23 h2
  obtain ⟨j2, rfl, z2⟩ := wf_u16 w2
  obtain ⟨j3, e3, _, w3⟩ := DataW.trod_int Tryz.underlying21 h3
  have z3 := wf_i32 w3
  obtain ⟨j4, e4, _, w4⟩ := DataW.trod_int Tryz.underlying21 h4
  have z4 := wf_i32 w4
  obtain ⟨j5, e5, _, w5⟩ := DataW.trod_int Tryz.underlying21 h5
  have z5 := wf_i32 w5
  obtain ⟨k6, e6, _, w6⟩ := DataW.trod_int Tryz.underlying5 h6
  obtain ⟨j6, rfl, z6⟩ := wf_u8 w6
  obtain ⟨j7, ⟨e7, l7⟩, z7⟩ := str_eltW b7 h7
  obtain ⟨j8, ⟨e8, l8⟩, z8⟩ := str_eltW b8 h8
  obtain ⟨j9, ⟨e9, l9⟩, z9⟩ := str_eltW b9 h9
  obtain ⟨A10, n10, c10, j10, e10, ha10, z10⟩ := strs_eltW b10 h10
  obtain ⟨A11, n11, c11, j11, e11, ha11, z11⟩ := bytes_eltW b11 h11
  have q0 : Tryz.prog.cellsOf 5 = 1 := by kernel_rfl
  have q1 : Tryz.prog.cellsOf 23 = 1 := by kernel_rfl
  have q2 : Tryz.prog.cellsOf 22 = 1 := by kernel_rfl
  have q3 : Tryz.prog.cellsOf 21 = 1 := by kernel_rfl
  have q4 : Tryz.prog.cellsOf 9 = 1 := by kernel_rfl
  have q5 : Tryz.prog.cellsOf 24 = 1 := by kernel_rfl
  have q6 : Tryz.prog.cellsOf 25 = 1 := by kernel_rfl
  have hid : strOk j11 := strOk_of z11 (by decide)
  match cs, hl2 with
  | [u0, u1, u2, u3, u4, u5, u6, u7, u8, u9, u10, u11], _ =>
    simp [q0, q1, q2, q3, q4, q5, q6] at e0 e1 e2 e3 e4 e5 e6 e7 e8 e9 e10 e11
    subst e0 e1 e2 e3 e4 e5 e6 e7 e8 e9 e10 e11
    exact ⟨⟨j0, j1, j2, j3, j4, j5, j6, j7, j8, j9, j10, j11⟩, A10, n10, c10, A11, n11, c11, rfl, ha10, ha11, ⟨z0, l1, z2, z3, z4, z5, z6, l7, l8, l9, hid⟩, z10, z11⟩
theorem nte_eltW {n : Nat} {cs : List Value} {x : DataW H × List MemPlace} (hB : Wt 38 x.1) (h : DataW.trod enc Tryz.prog W 0 (fun _ => true) true n 38 cs = some x) : ∃ (y : Nte) (A : Option Addr) (n c : Nat) (A2 : Option Addr) (n2 c2 : Nat), cs = nteV y (.slice A n c) (.slice A2 n2 c2) ∧ Sl (fun _ => True) W A n c y.addr.addr ∧ Arr 1 strP (fun _ => True) W A2 n2 c2 y.schema.args ∧ strOk y.kind ∧ strOk y.what ∧ y.addr.port < 4294967296 ∧ y.addr.addr.length ≤ 140737488351232 ∧ ChgB y.schema ∧ y.schema.args.length ≤ 140737488351232 := by
  obtain ⟨hl, m2, hf⟩ := field_ofW Tryz.underlying38 hB h
  have hl2 : cs.length = 9 := hl.trans (by kernel_rfl)
  obtain ⟨y0, h0, b0⟩ := hf 0 _ rfl
  obtain ⟨y1, h1, b1⟩ := hf 1 _ rfl
  obtain ⟨y2, h2, b2⟩ := hf 2 _ rfl
  obtain ⟨y3, h3, b3⟩ := hf 3 _ rfl
  obtain ⟨j0, ⟨e0, l0⟩, z0⟩ := str_eltW b0 h0
  obtain ⟨j1, ⟨e1, l1⟩, z1⟩ := str_eltW b1 h1
  obtain ⟨j2, A2, n2, c2, e2, ha2, z2, p2⟩ := inet_eltW b2 h2
  obtain ⟨j3, A3, n3, c3, e3, ha3, z3, p3⟩ := chg_eltW b3 h3
  have q0 : Tryz.prog.cellsOf 9 = 1 := by kernel_rfl
  have q1 : Tryz.prog.cellsOf 34 = 2 := by kernel_rfl
  have q2 : Tryz.prog.cellsOf 36 = 5 := by kernel_rfl
  match cs, hl2 with
  | [u0, u1, u2, u3, u4, u5, u6, u7, u8], _ =>
    simp [q0, q1, q2] at e0 e1 e2 e3
    obtain ⟨d0, d1⟩ := e2
    obtain ⟨g0, g1, g2, g3, g4⟩ := e3
    subst e0 e1 d0 d1 g0 g1 g2 g3 g4
    exact ⟨⟨j0, j1, j2, j3⟩, A2, n2, c2, A3, n3, c3, rfl, ha2, ha3, l0, l1, p2, z2, z3, p3⟩
theorem multi_eltW {n : Nat} {cs : List Value} {x : DataW H × List MemPlace} (hB : Wt 65 x.1) (h : DataW.trod enc Tryz.prog W 0 (fun _ => true) true n 65 cs = some x) : ∃ y, multiP (fun _ => True) W y cs ∧ y.2.length ≤ 140737488351232 := by
  obtain ⟨hl, m2, hf⟩ := field_ofW Tryz.underlying65 hB h
  have hl2 : cs.length = 2 := hl.trans (by kernel_rfl)
  obtain ⟨y0, h0, b0⟩ := hf 0 _ rfl
  obtain ⟨y1, h1, b1⟩ := hf 1 _ rfl
  obtain ⟨j0, ⟨e0, l0⟩, z0⟩ := str_eltW b0 h0
  obtain ⟨A1, n1, c1, j1, e1, ha1, z1⟩ := strs_eltW b1 h1
  have q0 : Tryz.prog.cellsOf 9 = 1 := by kernel_rfl
  have q1 : Tryz.prog.cellsOf 24 = 1 := by kernel_rfl
  match cs, hl2 with
  | [u0, u1], _ =>
    simp [q0, q1] at e0 e1
    subst e0 e1
    exact ⟨(j0, j1), ⟨A1, n1, c1, rfl, l0, ha1⟩, z1⟩
theorem rp_eltW {n : Nat} {cs : List Value} {x : DataW H × List MemPlace} (hB : Wt 40 x.1) (h : DataW.trod enc Tryz.prog W 0 (fun _ => true) true n 40 cs = some x) : ∃ (y : Rp) (t : Trs), cs = rpT y t ∧ RpR (fun _ => True) W y t ∧ RpA 140737488351232 y := by
  obtain ⟨hl, m2, hf⟩ := field_ofW Tryz.underlying40 hB h
  have hl2 : cs.length = 34 := hl.trans (by kernel_rfl)
  obtain ⟨y0, h0, b0⟩ := hf 0 _ rfl
  obtain ⟨y1, h1, b1⟩ := hf 1 _ rfl
  obtain ⟨y2, h2, b2⟩ := hf 2 _ rfl
  obtain ⟨y3, h3, b3⟩ := hf 3 _ rfl
  obtain ⟨y4, h4, b4⟩ := hf 4 _ rfl
  obtain ⟨y5, h5, b5⟩ := hf 5 _ rfl
  obtain ⟨y6, h6, b6⟩ := hf 6 _ rfl
  obtain ⟨y7, h7, b7⟩ := hf 7 _ rfl
  obtain ⟨y8, h8, b8⟩ := hf 8 _ rfl
  obtain ⟨y9, h9, b9⟩ := hf 9 _ rfl
  obtain ⟨k0, e0, _, w0⟩ := DataW.trod_int Tryz.underlying5 h0
  obtain ⟨j0, rfl, z0⟩ := wf_u8 w0
  obtain ⟨j1, A1, n1, c1, B1, m1, d1, e1, ha1, hi1, z1, za1, zi1⟩ := flt_eltW b1 h1
  obtain ⟨j2, ⟨e2, l2⟩, z2⟩ := str_eltW b2 h2
  obtain ⟨A3, n3, c3, j3, e3, ha3, z3⟩ := arr_of_trodW (k := 2) (P := fun y v => multiP (fun _ => True) W y v ∧ y.2.length ≤ 140737488351232) Tryz.underlying30 (by kernel_rfl) (by decide) (of_decide_eq_true (by kernel_rfl)) (fun _ _ _ hb h => multi_eltW hb h) b3 h3
  obtain ⟨j4, A4, n4, c4, e4, ha4, z4⟩ := val_eltW b4 h4
  obtain ⟨j5, A5, n5, c5, B5, m5, d5, e5, ha5, hi5, k5, x5, p5, a5, g5, y5'⟩ := nte_eltW b5 h5
  obtain ⟨k6, e6, _, w6⟩ := DataW.trod_int Tryz.underlying22 h6
  obtain ⟨j6, rfl, z6⟩ := wf_u32 w6
  obtain ⟨j7, A7, n7, c7, e7, ha7, z7, p7⟩ := chg_eltW b7 h7
  obtain ⟨A8, n8, c8, j8, e8, ha8, z8⟩ := bytes_eltW b8 h8
  obtain ⟨A9, n9, c9, j9, e9, ha9, z9⟩ := bytes_eltW b9 h9
  have q0 : Tryz.prog.cellsOf 5 = 1 := by kernel_rfl
  have q1 : Tryz.prog.cellsOf 27 = 12 := by kernel_rfl
  have q2 : Tryz.prog.cellsOf 9 = 1 := by kernel_rfl
  have q3 : Tryz.prog.cellsOf 30 = 1 := by kernel_rfl
  have q4 : Tryz.prog.cellsOf 32 = 2 := by kernel_rfl
  have q5 : Tryz.prog.cellsOf 38 = 9 := by kernel_rfl
  have q6 : Tryz.prog.cellsOf 22 = 1 := by kernel_rfl
  have q7 : Tryz.prog.cellsOf 36 = 5 := by kernel_rfl
  have q8 : Tryz.prog.cellsOf 25 = 1 := by kernel_rfl
  match cs, hl2 with
  | u0 :: u1 :: u2 :: u3 :: u4 :: u5 :: u6 :: u7 :: u8 :: u9 :: u10 :: u11 :: u12 :: u13 :: u14 :: u15 :: u16 :: u17 :: u18 :: u19 :: u20 :: u21 :: u22 :: u23 :: u24 :: u25 :: u26 :: u27 :: u28 :: u29 :: u30 :: u31 :: u32 :: u33 :: [], _ =>
    simp [q0, q1, q2, q3, q4, q5, q6, q7, q8, fltV, nteV] at e0 e1 e2 e3 e4 e5 e6 e7 e8 e9
    obtain ⟨f0, f1, f2, f3, f4, f5, f6, f7, f8, f9, f10, f11⟩ := e1
    obtain ⟨v0, v1⟩ := e4
    obtain ⟨o0, o1, o2, o3, o4, o5, o6, o7, o8⟩ := e5
    obtain ⟨r0, r1, r2, r3, r4⟩ := e7
    subst e0 f0 f1 f2 f3 f4 f5 f6 f7 f8 f9 f10 f11 e2 e3 v0 v1 o0 o1 o2 o3 o4 o5 o6 o7 o8 e6 r0 r1 r2 r3 r4 e8 e9
    exact ⟨⟨j0, j1, j2, j3, j4, j5, j6, j7, j8, j9⟩, ⟨⟨A1, n1, c1⟩, ⟨B1, m1, d1⟩, ⟨A3, n3, c3⟩, ⟨A4, n4, c4⟩, ⟨A5, n5, c5⟩, ⟨B5, m5, d5⟩, ⟨A7, n7, c7⟩, ⟨A8, n8, c8⟩, ⟨A9, n9, c9⟩⟩, rfl,
      ⟨ha1, hi1, ha3.imp fun _ _ _ h => h.1, ha4, ha5, hi5, ha7, ha8, ha9⟩, ⟨z0, z1, z2, k5, x5, p5, a5, g5, z6, z7, zi1, z8, z4, z9, za1, y5', p7, by have := ha3.len; show j3.length ≤ _; omega, fun x hx => by obtain ⟨v, _, h⟩ := ha3.mem x hx; exact h⟩⟩
end
section
variable {H : Type} {enc : TypeId × Value → H} {W : World} {r : Reach} {b0 : Nat} {v : Value} {d : DataW H} {p : List MemPlace}
theorem rp_ofW (hval : Value.okWide Tryz.prog W r b0 40 v) (h : DataW.Trod enc Tryz.prog W 0 (fun _ => true) true 40 v d p) (hB : Wt 40 d) :
    ∃ (y : Rp) (t : Trs), v = .agg (rpT y t).toArray ∧ RpR (fun _ => True) W y t ∧ RpA 140737488351232 y := by
  obtain ⟨cs, rfl, _⟩ := okWide_struct Tryz.underlying40 hval
  obtain ⟨fuel, hf⟩ := h
  obtain ⟨y, t, he, hR⟩ := rp_eltW hB hf
  have he : cs.toList = _ := he
  exact ⟨y, t, by rw [← he], hR⟩
theorem rpA_ofW (hval : Value.okWide Tryz.prog W r b0 40 v) (h : DataW.Trod enc Tryz.prog W 0 (fun _ => true) true 40 v d p) (hB : Wt 40 d) :
    ∃ (y : Rp) (t : Trs), v = .agg (rpT y t).toArray ∧ RpR (fun _ => True) W y t ∧ RpA 140737488355328 y := by
  obtain ⟨y, t, h1, h2, h3⟩ := rp_ofW hval h hB
  exact ⟨y, t, h1, h2, h3.up (by decide)⟩
theorem multisA_ofW (hval : Value.okWide Tryz.prog W r b0 30 v) (h : DataW.Trod enc Tryz.prog W 0 (fun _ => true) true 30 v d p) (hB : Wt 30 d) :
    ∃ A n c l, v = .slice A n c ∧ Arr 2 (multiP (fun _ => True) W) (fun _ => True) W A n c l ∧ n ≤ 140737488351232 ∧ ∀ y ∈ l, y.2.length ≤ 140737488351232 :=
  arr_of_argW Tryz.underlying30 (by kernel_rfl) (by decide) (of_decide_eq_true (by kernel_rfl)) (fun _ _ _ hb h => multi_eltW hb h) hval h hB
theorem strA_ofW (hval : Value.okWide Tryz.prog W r b0 9 v) (h : DataW.Trod enc Tryz.prog W 0 (fun _ => true) true 9 v d p) (hB : Wt 9 d) :
    ∃ s, v = .string (str s) ∧ s.length ≤ 140737488351232 := by
  obtain ⟨fuel, hf⟩ := h
  obtain ⟨s0, rfl⟩ := okWide_string Tryz.underlying9 hval
  obtain ⟨y, ⟨e, _⟩, h2⟩ := str_eltW hB hf
  exact ⟨y, by injection e, h2⟩
theorem valA_ofW (hval : Value.okWide Tryz.prog W r b0 32 v) (h : DataW.Trod enc Tryz.prog W 0 (fun _ => true) true 32 v d p) (hB : Wt 32 d) :
    ∃ (y : Val) (A : Option Addr) (n c : Nat), v = .agg #[.int .i64 y.kind, .slice A n c] ∧ Sl (fun _ => True) W A n c y.bytes ∧ y.bytes.length ≤ 140737488351232 := by
  obtain ⟨cs, rfl, _⟩ := okWide_struct Tryz.underlying32 hval
  obtain ⟨fuel, hf⟩ := h
  obtain ⟨y, A, n, c, he, hR⟩ := val_eltW hB hf
  have he : cs.toList = _ := he
  refine ⟨y, A, n, c, ?_, hR⟩
  show _ = Value.agg [.int .i64 y.kind, .slice A n c].toArray
  rw [← he]
theorem sl_ofW (hval : Value.okWide Tryz.prog W r b0 25 v) (h : DataW.Trod enc Tryz.prog W 0 (fun _ => true) true 25 v d p) (hB : Wt 25 d) :
    ∃ A n c bs, v = .slice A n c ∧ Sl (fun _ => True) W A n c bs ∧ bs.length ≤ 140737488351232 := by
  obtain ⟨fuel, hf⟩ := h
  obtain ⟨a0, len0, cap0, rfl⟩ := okWide_slice Tryz.underlying25 hval
  obtain ⟨A, n, c, bs, he, h1, h2⟩ := bytes_eltW hB hf
  exact ⟨A, n, c, bs, by injection he, h1, h2⟩
end
section
variable {H : Type} {enc : TypeId × Value → H} {W : World} {r : Reach} {b0 : Nat} {v : Value} {d : DataW H} {p : List MemPlace}
theorem fltA_ofW (hval : Value.okWide Tryz.prog W r b0 27 v) (h : DataW.Trod enc Tryz.prog W 0 (fun _ => true) true 27 v d p) (hB : Wt 27 d) :
    ∃ (y : Flt) (A : Option Addr) (n c : Nat) (A2 : Option Addr) (n2 c2 : Nat), v = .agg (fltV y (.slice A n c) (.slice A2 n2 c2)).toArray ∧ Arr 1 strP (fun _ => True) W A n c y.args ∧ Sl (fun _ => True) W A2 n2 c2 y.ident ∧ FltB y ∧ y.args.length ≤ 140737488351232 ∧ y.ident.length ≤ 140737488351232 := by
  obtain ⟨cs, rfl, _⟩ := okWide_struct Tryz.underlying27 hval
  obtain ⟨fuel, hf⟩ := h
  obtain ⟨y, A, n, c, A2, n2, c2, he, hR⟩ := flt_eltW hB hf
  have he : cs.toList = _ := he
  exact ⟨y, A, n, c, A2, n2, c2, by rw [← he], hR⟩
theorem nteA_ofW (hval : Value.okWide Tryz.prog W r b0 38 v) (h : DataW.Trod enc Tryz.prog W 0 (fun _ => true) true 38 v d p) (hB : Wt 38 d) :
    ∃ (y : Nte) (ad sc : Tr), v = .agg (nteV y ad.v sc.v).toArray ∧ Sl (fun _ => True) W ad.a ad.n ad.c y.addr.addr ∧ Arr 1 strP (fun _ => True) W sc.a sc.n sc.c y.schema.args ∧ strOk y.kind ∧ strOk y.what ∧ y.addr.port < 4294967296 ∧ y.addr.addr.length ≤ 140737488351232 ∧ ChgB y.schema ∧ y.schema.args.length ≤ 140737488351232 := by
  obtain ⟨cs, rfl, _⟩ := okWide_struct Tryz.underlying38 hval
  obtain ⟨fuel, hf⟩ := h
  obtain ⟨y, A, n, c, A2, n2, c2, he, hR⟩ := nte_eltW hB hf
  have he : cs.toList = _ := he
  exact ⟨y, ⟨A, n, c⟩, ⟨A2, n2, c2⟩, by show _ = Value.agg (nteV y (.slice A n c) (.slice A2 n2 c2)).toArray; rw [← he], hR⟩
theorem chgA_ofW (hval : Value.okWide Tryz.prog W r b0 36 v) (h : DataW.Trod enc Tryz.prog W 0 (fun _ => true) true 36 v d p) (hB : Wt 36 d) :
    ∃ (y : Chg) (cg : Tr), v = .agg (chgV y cg.v).toArray ∧ Arr 1 strP (fun _ => True) W cg.a cg.n cg.c y.args ∧ ChgB y ∧ y.args.length ≤ 140737488351232 := by
  obtain ⟨cs, rfl, _⟩ := okWide_struct Tryz.underlying36 hval
  obtain ⟨fuel, hf⟩ := h
  obtain ⟨y, A, n, c, he, hR⟩ := chg_eltW hB hf
  have he : cs.toList = _ := he
  exact ⟨y, ⟨A, n, c⟩, by show _ = Value.agg (chgV y (.slice A n c)).toArray; unfold chgV; rw [← he], hR⟩
end
end Go.Proofs.Sb
