/- Requests and what statements are run with as arguments, opened, of bounded bulk. No conditions. -/
import Derived.Test.YtdgmkmadlnmhbaaArgse
import Derived.Test.YtdgmkmadlnmhbaaRqe
set_option linter.unusedVariables false
set_option linter.unusedSimpArgs false
namespace Sb
/-- the lengths within a run -/
structure ParB (M : Nat) (p : Par) : Prop where
  values : ∀ v ∈ p.values, v.bytes.length ≤ M
  nvals : p.values.length ≤ M
  nnames : p.names.length ≤ M
  state : p.state.bytes.length ≤ M
/-- the lengths within a request -/
structure RqB (M : Nat) (q : Rq) : Prop where
  text : q.text.length ≤ M
  ident : q.ident.length ≤ M
  run : ParB M q.run
  token : q.token.bytes.length ≤ M
  all : ∀ x ∈ q.all, x.text.length ≤ M ∧ x.ident.length ≤ M ∧ (∀ v ∈ x.values, v.bytes.length ≤ M) ∧ x.values.length ≤ M
  nopts : q.options.length ≤ M
  nevs : q.events.length ≤ M
  nall : q.all.length ≤ M
end Sb
namespace Go.Proofs.Sb
open Go.RowKit _root_.Sb
open Go.ChangeShapes Go.WideShapes Go.ChangeAt
open Go.Proofs.Ytdgmkmadlnmhbaa.Rows (uptoBulk uptoBulkAll uptoSmall)
set_option maxRecDepth 100000

section
variable {H : Type} {enc : TypeId × Value → H} {W : World} {Bd : Nat}
theorem wf_u8 {k : Int} (hw : (Lit.int .u8 k).wf = true) : ∃ q : Nat, k = (q : Int) ∧ q < 256 := by
  have hb : 0 ≤ k ∧ k < 256 := by
    simp [Lit.wf, IntKind.min, IntKind.max, IntKind.signed, IntKind.bits] at hw
    omega
  obtain ⟨q, rfl⟩ := Int.eq_ofNat_of_zero_le hb.1
  exact ⟨q, rfl, by omega⟩
theorem wf_u16 {k : Int} (hw : (Lit.int .u16 k).wf = true) : ∃ q : Nat, k = (q : Int) ∧ q < 65536 := by
  have hb : 0 ≤ k ∧ k < 65536 := by
    simp [Lit.wf, IntKind.min, IntKind.max, IntKind.signed, IntKind.bits] at hw
    omega
  obtain ⟨q, rfl⟩ := Int.eq_ofNat_of_zero_le hb.1
  exact ⟨q, rfl, by omega⟩
theorem wf_i32 {k : Int} (hw : (Lit.int .i32 k).wf = true) : -2147483648 ≤ k ∧ k ≤ 2147483647 := by
  simp [Lit.wf, IntKind.min, IntKind.max, IntKind.signed, IntKind.bits] at hw
  omega
theorem wf_i64 {k : Int} (hw : (Lit.int .i64 k).wf = true) : -9223372036854775808 ≤ k ∧ k ≤ 9223372036854775807 := by
  simp [Lit.wf, IntKind.min, IntKind.max, IntKind.signed, IntKind.bits] at hw
  omega
theorem val_eltB {n : Nat} {cs : List Value} {x : DataW H × List MemPlace} (hB : uptoBulk x.1 ≤ Bd) (h : DataW.trod enc Try.prog W 0 (fun _ => true) true n 28 cs = some x) : ∃ y : Val, valP (fun _ => True) W y cs ∧ y.bytes.length ≤ Bd := by
  obtain ⟨hl, m2, hf2⟩ := field_ofB Try.underlying28 hB h
  have hl2 : cs.length = 2 := hl.trans (by kernel_rfl)
  obtain ⟨y2, h2, b2⟩ := hf2 0 _ rfl
  obtain ⟨y3, h3, b3⟩ := hf2 1 _ rfl
  obtain ⟨k, e2, _⟩ := DataW.trod_int Try.underlying3 h2
  obtain ⟨A, n1, c, bs, e3, ha, k3⟩ := bytes_eltB b3 h3
  have c3 : Try.prog.cellsOf 3 = 1 := by kernel_rfl
  have c4 : Try.prog.cellsOf 23 = 1 := by kernel_rfl
  match cs, hl2 with
  | [a, b], _ =>
    simp [c3, c4] at e2 e3
    subst e2 e3
    exact ⟨⟨k, bs⟩, ⟨A, n1, c, rfl, ha⟩, k3⟩
theorem strs_eltB {n : Nat} {cs : List Value} {x : DataW H × List MemPlace} (hB : uptoBulk x.1 ≤ Bd) (h : DataW.trod enc Try.prog W 0 (fun _ => true) true n 26 cs = some x) : ∃ A n c l, cs = [.slice A n c] ∧ Arr 1 strP (fun _ => True) W A n c l ∧ l.length ≤ Bd := by
  obtain ⟨A, n, c, l, he, ha, hn⟩ := arr_of_trodB (k := 1) (P := strP) Try.underlying26 (by kernel_rfl) (by decide) (fun _ _ _ hb h => by obtain ⟨y, h1, _⟩ := str_eltB hb h; exact ⟨y, h1⟩) hB h
  exact ⟨A, n, c, l, he, ha, by have := ha.len; omega⟩
theorem vals_eltB {n : Nat} {cs : List Value} {x : DataW H × List MemPlace} (hB : uptoBulk x.1 ≤ Bd) (h : DataW.trod enc Try.prog W 0 (fun _ => true) true n 25 cs = some x) : ∃ A n c l, cs = [.slice A n c] ∧ Arr 2 (valP (fun _ => True) W) (fun _ => True) W A n c l ∧ (∀ v ∈ l, v.bytes.length ≤ Bd) ∧ l.length ≤ Bd := by
  obtain ⟨A, n, c, l, he, ha, hn⟩ := arr_of_trodB (k := 2) (P := fun y v => valP (fun _ => True) W y v ∧ y.bytes.length ≤ Bd) Try.underlying25 (by kernel_rfl) (by decide) (fun _ _ _ hb h => val_eltB hb h) hB h
  exact ⟨A, n, c, l, he, ha.imp fun _ _ _ h => h.1, fun x hx => by obtain ⟨v, _, h⟩ := ha.mem x hx; exact h, by have := ha.len; omega⟩
theorem stm_eltB {n : Nat} {cs : List Value} {x : DataW H × List MemPlace} (hB : uptoBulk x.1 ≤ Bd) (h : DataW.trod enc Try.prog W 0 (fun _ => true) true n 58 cs = some x) :
    ∃ y : Stm, stmP (fun _ => True) W y cs ∧ y.text.length ≤ Bd ∧ y.ident.length ≤ Bd ∧ (∀ v ∈ y.values, v.bytes.length ≤ Bd) ∧ y.values.length ≤ Bd := by
  obtain ⟨hl, m2, hf⟩ := field_ofB Try.underlying58 hB h
  have hl2 : cs.length = 4 := hl.trans (by kernel_rfl)
  obtain ⟨y0, h0, b0⟩ := hf 0 _ rfl
  obtain ⟨y1, h1, b1⟩ := hf 1 _ rfl
  obtain ⟨y2, h2, b2⟩ := hf 2 _ rfl
  obtain ⟨y3, h3, b3⟩ := hf 3 _ rfl
  obtain ⟨k, e0, _⟩ := DataW.trod_bool Try.underlying4 h0
  obtain ⟨s1, ⟨e1, l1⟩, k1⟩ := str_eltB b1 h1
  obtain ⟨A, n1, c, bs, e2, ha, k2⟩ := bytes_eltB b2 h2
  obtain ⟨A3, n3, c3, l3, e3, ha3, k3⟩ := vals_eltB b3 h3
  have q1 : Try.prog.cellsOf 4 = 1 := by kernel_rfl
  have q2 : Try.prog.cellsOf 9 = 1 := by kernel_rfl
  have q3 : Try.prog.cellsOf 23 = 1 := by kernel_rfl
  have q4 : Try.prog.cellsOf 25 = 1 := by kernel_rfl
  match cs, hl2 with
  | [u0, u1, u2, u3], _ =>
    simp [q1, q2, q3, q4] at e0 e1 e2 e3
    subst e0 e1 e2 e3
    exact ⟨⟨k, s1, bs, l3⟩, ⟨A, n1, c, A3, n3, c3, rfl, l1, ha, ha3⟩, k1, k2, k3.1, k3.2⟩
theorem par_eltB {n : Nat} {cs : List Value} {x : DataW H × List MemPlace} (hB : uptoBulk x.1 ≤ Bd) (h : DataW.trod enc Try.prog W 0 (fun _ => true) true n 30 cs = some x) :
    ∃ (p : Par) (A1 : Option Addr) (n1 c1 : Nat) (A2 : Option Addr) (n2 c2 : Nat) (A3 : Option Addr) (n3 c3 : Nat), cs = parV p A1 n1 c1 A2 n2 c2 A3 n3 c3 ∧ ParR (fun _ => True) W A1 n1 c1 A2 n2 c2 A3 n3 c3 p.values p.names p.state.bytes ∧ ParN p ∧ ParB Bd p := by
  obtain ⟨hl, m2, hf⟩ := field_ofB Try.underlying30 hB h
  have hl2 : cs.length = 13 := hl.trans (by kernel_rfl)
  obtain ⟨y0, h0, b0⟩ := hf 0 _ rfl
  obtain ⟨y1, h1, b1⟩ := hf 1 _ rfl
  obtain ⟨y2, h2, b2⟩ := hf 2 _ rfl
  obtain ⟨y3, h3, b3⟩ := hf 3 _ rfl
  obtain ⟨y4, h4, b4⟩ := hf 4 _ rfl
  obtain ⟨y5, h5, b5⟩ := hf 5 _ rfl
  obtain ⟨y6, h6, b6⟩ := hf 6 _ rfl
  obtain ⟨y7, h7, b7⟩ := hf 7 _ rfl
  obtain ⟨y8, h8, b8⟩ := hf 8 _ rfl
  obtain ⟨y9, h9, b9⟩ := hf 9 _ rfl
  obtain ⟨y10, h10, b10⟩ := hf 10 _ rfl
  obtain ⟨y11, h11, b11⟩ := hf 11 _ rfl
  obtain ⟨k0, e0, _, w0⟩ := DataW.trod_int Try.underlying24 h0
  obtain ⟨A1, n1, c1, l1, e1, ha1, g1⟩ := vals_eltB b1 h1
  obtain ⟨A2, n2, c2, l2, e2, ha2, g2⟩ := strs_eltB b2 h2
  obtain ⟨k3, e3, _⟩ := DataW.trod_bool Try.underlying4 h3
  obtain ⟨k4, e4, _⟩ := DataW.trod_bool Try.underlying4 h4
  obtain ⟨k5, e5, _, w5⟩ := DataW.trod_int Try.underlying21 h5
  obtain ⟨k6, e6, _⟩ := DataW.trod_bool Try.underlying4 h6
  obtain ⟨v7, ⟨A7, n7, c7, e7, ha7⟩, g7⟩ := val_eltB b7 h7
  obtain ⟨k8, e8, _⟩ := DataW.trod_bool Try.underlying4 h8
  obtain ⟨k9, e9, _, w9⟩ := DataW.trod_int Try.underlying24 h9
  obtain ⟨k10, e10, _⟩ := DataW.trod_bool Try.underlying4 h10
  obtain ⟨k11, e11, _, w11⟩ := DataW.trod_int Try.underlying2 h11
  obtain ⟨j0, rfl, z00⟩ := wf_u16 w0
  obtain ⟨j9, rfl, z09⟩ := wf_u16 w9
  have q1 : Try.prog.cellsOf 4 = 1 := by kernel_rfl
  have q2 : Try.prog.cellsOf 24 = 1 := by kernel_rfl
  have q3 : Try.prog.cellsOf 26 = 1 := by kernel_rfl
  have q4 : Try.prog.cellsOf 25 = 1 := by kernel_rfl
  have q5 : Try.prog.cellsOf 21 = 1 := by kernel_rfl
  have q6 : Try.prog.cellsOf 28 = 2 := by kernel_rfl
  have q7 : Try.prog.cellsOf 2 = 1 := by kernel_rfl
  match cs, hl2 with
  | [u0, u1, u2, u3, u4, u5, u6, u7, u8, u9, u10, u11, u12], _ =>
    simp [q1, q2, q3, q4, q5, q6, q7] at e0 e1 e2 e3 e4 e5 e6 e7 e8 e9 e10 e11
    obtain ⟨e7, e7'⟩ := e7
    subst e0 e1 e2 e3 e4 e5 e6 e7 e7' e8 e9 e10 e11
    exact ⟨⟨j0, l1, l2, k3, k4, k5, k6, v7, k8, j9, k10, k11⟩, A1, n1, c1, A2, n2, c2, A7, n7, c7, rfl, ⟨ha1, ha2, ha7⟩, ⟨z00, z09, wf_i32 w5, wf_i64 w11⟩, ⟨g1.1, g1.2, g2, g7⟩⟩
theorem rq_eltB {n : Nat} {cs : List Value} {x : DataW H × List MemPlace} (hB : uptoBulk x.1 ≤ Bd) (h : DataW.trod enc Try.prog W 0 (fun _ => true) true n 33 cs = some x) :
    ∃ (q : Rq) (o i r1 r2 r3 ev t al : Slc), cs = rqV q o i r1 r2 r3 ev t al ∧ RqR (fun _ => True) W q o i r1 r2 r3 ev t al ∧ ParN q.run ∧ RqB Bd q ∧ q.opcode < 256 ∧ q.kind < 256 := by
  obtain ⟨hl, m2, hf⟩ := field_ofB Try.underlying33 hB h
  have hl2 : cs.length = 22 := hl.trans (by kernel_rfl)
  obtain ⟨y0, h0, b0⟩ := hf 0 _ rfl
  obtain ⟨y1, h1, b1⟩ := hf 1 _ rfl
  obtain ⟨y2, h2, b2⟩ := hf 2 _ rfl
  obtain ⟨y3, h3, b3⟩ := hf 3 _ rfl
  obtain ⟨y4, h4, b4⟩ := hf 4 _ rfl
  obtain ⟨y5, h5, b5⟩ := hf 5 _ rfl
  obtain ⟨y6, h6, b6⟩ := hf 6 _ rfl
  obtain ⟨y7, h7, b7⟩ := hf 7 _ rfl
  obtain ⟨y8, h8, b8⟩ := hf 8 _ rfl
  obtain ⟨k0, e0, _, w0⟩ := DataW.trod_int Try.underlying5 h0
  obtain ⟨A1, n1, c1, l1, e1, ha1, g1⟩ := arr_of_trodB (k := 2) (P := pairP) Try.underlying22 (by kernel_rfl) (by decide) (fun _ _ _ _ h => pair_elt h) b1 h1
  obtain ⟨s2, ⟨e2, l2⟩, g2⟩ := str_eltB b2 h2
  obtain ⟨A3, n3, c3, bs3, e3, ha3, g3⟩ := bytes_eltB b3 h3
  obtain ⟨p, P1, p1, d1, P2, p2, d2, P3, p3, d3, e4, hp, hpn, hpb⟩ := par_eltB b4 h4
  obtain ⟨A5, n5, c5, l5, e5, ha5, g5⟩ := strs_eltB b5 h5
  obtain ⟨v6, ⟨A6, n6, c6, e6, ha6⟩, g6⟩ := val_eltB b6 h6
  obtain ⟨k7, e7, _, w7⟩ := DataW.trod_int Try.underlying5 h7
  obtain ⟨A8, n8, c8, l8, e8, ha8, g8⟩ := arr_of_trodB (k := 4) (P := fun y v => stmP (fun _ => True) W y v ∧ (y.text.length ≤ Bd ∧ y.ident.length ≤ Bd ∧ (∀ v ∈ y.values, v.bytes.length ≤ Bd) ∧ y.values.length ≤ Bd)) Try.underlying31 (by kernel_rfl) (by decide) (fun _ _ _ hb h => by obtain ⟨y, q1, q2⟩ := stm_eltB hb h; exact ⟨y, q1, q2⟩) b8 h8
  obtain ⟨j0, rfl, z00⟩ := wf_u8 w0
  obtain ⟨j7, rfl, z07⟩ := wf_u8 w7
  have q1 : Try.prog.cellsOf 5 = 1 := by kernel_rfl
  have q2 : Try.prog.cellsOf 22 = 1 := by kernel_rfl
  have q3 : Try.prog.cellsOf 9 = 1 := by kernel_rfl
  have q4 : Try.prog.cellsOf 23 = 1 := by kernel_rfl
  have q5 : Try.prog.cellsOf 30 = 13 := by kernel_rfl
  have q6 : Try.prog.cellsOf 26 = 1 := by kernel_rfl
  have q7 : Try.prog.cellsOf 28 = 2 := by kernel_rfl
  have q8 : Try.prog.cellsOf 31 = 1 := by kernel_rfl
  match cs, hl2 with
  | [u0, u1, u2, u3, u4, u5, u6, u7, u8, u9, u10, u11, u12, u13, u14, u15, u16, u17, u18, u19, u20, u21], _ =>
    simp [q1, q2, q3, q4, q5, q6, q7, q8, parV] at e0 e1 e2 e3 e4 e5 e6 e7 e8
    obtain ⟨z0, z1, z2, z3, z4, z5, z6, z7, z8, z9, z10, z11, z12⟩ := e4
    obtain ⟨e6, e6'⟩ := e6
    subst e0 e1 e2 e3 z0 z1 z2 z3 z4 z5 z6 z7 z8 z9 z10 z11 z12 e5 e6 e6' e7 e8
    exact ⟨⟨j0, l1, s2, bs3, p, l5, v6, j7, l8⟩, ⟨A1, n1, c1⟩, ⟨A3, n3, c3⟩, ⟨P1, p1, d1⟩, ⟨P2, p2, d2⟩, ⟨P3, p3, d3⟩, ⟨A5, n5, c5⟩, ⟨A6, n6, c6⟩, ⟨A8, n8, c8⟩, rfl,
      ⟨ha1, l2, ha3, hp, ha5, ha6, ha8.imp fun _ _ _ h => h.1⟩, hpn, ⟨g2, g3, hpb, g6, fun x hx => by obtain ⟨v, _, h⟩ := ha8.mem x hx; exact h, by have := ha1.len; show l1.length ≤ _; omega, g5, by have := ha8.len; show l8.length ≤ _; omega⟩, z00, z07⟩
end
section
variable {H : Type} {enc : TypeId × Value → H} {W : World} {r : Reach} {b0 : Nat} {v : Value} {d : DataW H} {p : List MemPlace} {Bd : Nat}
theorem rq_ofB (hval : Value.okWide Try.prog W r b0 33 v) (h : DataW.Trod enc Try.prog W 0 (fun _ => true) true 33 v d p) (hB : uptoBulk d ≤ Bd) :
    ∃ (q : Rq) (o i r1 r2 r3 ev t al : Slc), v = .agg (rqV q o i r1 r2 r3 ev t al).toArray ∧ RqR (fun _ => True) W q o i r1 r2 r3 ev t al ∧ ParN q.run ∧ RqB Bd q ∧ q.opcode < 256 ∧ q.kind < 256 := by
  obtain ⟨cs, rfl, _⟩ := okWide_struct Try.underlying33 hval
  obtain ⟨fuel, hf⟩ := h
  obtain ⟨q, o, i, r1, r2, r3, ev, t, al, he, hR⟩ := rq_eltB hB hf
  have he : cs.toList = _ := he
  exact ⟨q, o, i, r1, r2, r3, ev, t, al, by rw [← he], hR⟩
theorem par_ofB (hval : Value.okWide Try.prog W r b0 30 v) (h : DataW.Trod enc Try.prog W 0 (fun _ => true) true 30 v d p) (hB : uptoBulk d ≤ Bd) :
    ∃ (p : Par) (r1 r2 r3 : Slc), v = .agg (parV p r1.a r1.n r1.c r2.a r2.n r2.c r3.a r3.n r3.c).toArray ∧ ParR (fun _ => True) W r1.a r1.n r1.c r2.a r2.n r2.c r3.a r3.n r3.c p.values p.names p.state.bytes ∧ ParN p ∧ ParB Bd p := by
  obtain ⟨cs, rfl, _⟩ := okWide_struct Try.underlying30 hval
  obtain ⟨fuel, hf⟩ := h
  obtain ⟨p, A1, n1, c1, A2, n2, c2, A3, n3, c3, he, hR⟩ := par_eltB hB hf
  have he : cs.toList = _ := he
  exact ⟨p, ⟨A1, n1, c1⟩, ⟨A2, n2, c2⟩, ⟨A3, n3, c3⟩, by rw [← he], hR⟩
theorem sl_ofB (hval : Value.okWide Try.prog W r b0 23 v) (h : DataW.Trod enc Try.prog W 0 (fun _ => true) true 23 v d p) (hB : uptoBulk d ≤ Bd) :
    ∃ A n c bs, v = .slice A n c ∧ Sl (fun _ => True) W A n c bs ∧ bs.length ≤ Bd := by
  obtain ⟨fuel, hf⟩ := h
  obtain ⟨a0, len0, cap0, rfl⟩ := okWide_slice Try.underlying23 hval
  obtain ⟨A, n, c, bs, he, h1, h2⟩ := bytes_eltB hB hf
  exact ⟨A, n, c, bs, by injection he, h1, h2⟩
theorem valuesA_ofB (hval : Value.okWide Try.prog W r b0 25 v) (h : DataW.Trod enc Try.prog W 0 (fun _ => true) true 25 v d p) (hB : uptoBulk d ≤ Bd) :
    ∃ A n c l, v = .slice A n c ∧ Arr 2 (valP (fun _ => True) W) (fun _ => True) W A n c l ∧ n ≤ Bd ∧ ∀ v ∈ l, v.bytes.length ≤ Bd :=
  arr_of_argB Try.underlying25 (by kernel_rfl) (by decide) (fun _ _ _ hb h => val_eltB hb h) hval h hB
/-- a row of truths: the cells of one -/
def bitP (b : Bool) (v : List Value) : Prop := v = [.bool b]
theorem bools_of (hval : Value.okWide Try.prog W r b0 61 v) (h : DataW.Trod enc Try.prog W 0 (fun _ => true) true 61 v d p) : ∃ A n c l, v = .slice A n c ∧ Arr 1 bitP (fun _ => True) W A n c l :=
  arr_of_arg Try.underlying61 (by kernel_rfl) (by decide) (fun _ _ _ h => by obtain ⟨b, e, _⟩ := DataW.trod_bool Try.underlying4 h; exact ⟨b, e⟩) hval h
end
end Go.Proofs.Sb
