/- Walk over request.reader's statement. Conditions: lengths up to 2^47. (written by gen_rqstm.py) -/
import Derived.Test.YtdgmkmadlnmhbaaRqu
set_option linter.unusedVariables false
set_option linter.unusedSimpArgs false
namespace Go.Proofs.Sb
open Go.RowKit _root_.Sb

/-- a statement of a batch in four cells -/
def stmP (S : Nat → Prop) (w : World) (x : Stm) (c : List Value) : Prop := ∃ A n k A2 n2 k2, c = [.bool x.prepared, .string (str x.text), .slice A n k, .slice A2 n2 k2] ∧ x.text.length ≤ 9223372036854775807 ∧ Sl S w A n k x.ident ∧ Arr 2 (valP S w) S w A2 n2 k2 x.values
theorem goesStm (x : Stm) (c : List Value) : Goes fun S w => stmP S w x c :=
  ⟨fun ⟨A, n, k, A2, n2, k2, e, hl, h1, h2⟩ hs hk => ⟨A, n, k, A2, n2, k2, e, hl, goesSl.keep h1 hs hk, goesArrV.keep h2 hs hk⟩, fun ⟨A, n, k, A2, n2, k2, e, hl, h1, h2⟩ hS => ⟨A, n, k, A2, n2, k2, e, hl, goesSl.mono h1 hS, goesArrV.mono h2 hS⟩⟩
theorem stmP_one {S : Nat → Prop} {w : World} (x : Stm) (c : List Value) (h : stmP S w x c) : ∀ u ∈ c, u.oneCell' = true := by
  obtain ⟨A, n, k, A2, n2, k2, rfl, _⟩ := h
  intro u hu
  simp at hu
  rcases hu with rfl | rfl | rfl | rfl <;> rfl
theorem tyStm : Ty 31 58 4 72 (.agg #[.bool false, .string ⟨#[]⟩, .slice none 0 0, .slice none 0 0]) := ⟨Try.underlying31, by kernel_rfl, rfl, by decide⟩
/-- what holds along a walk: the reader X, the box P, the result's box R, what the box's rows read as -/
structure GetI (S : Nat → Prop) (w : World) (X P R : Nat) (s : Wr) (vs vz : List Value) (F : (Nat → Prop) → World → Prop) (wx : World) : Prop where
  rd : RdAt (fun b => S b ∧ b < w.heap.size) wx X s
  box : Bx (fun b => b = P) wx P vs
  res : Bx (fun b => b = R) wx R vz
  gr : w.grownBy wx (some X)
  par : F (fun b => w.heap.size ≤ b ∧ b ≠ P ∧ b ≠ R ∧ b ≠ X) wx
section
variable {S : Nat → Prop} {w : World} {X P R : Nat} {s s' : Wr} {vs vz : List Value} {F F' : (Nat → Prop) → World → Prop} {wx w' : World}
theorem GetI.step (h : GetI S w X P R s vs vz F wx) (G : Goes F) (hP : P ≠ X) (hR : R ≠ X) (hr : RdAt (fun b => S b ∧ b < w.heap.size) w' X s') (hg : wx.grownBy w' (some X)) : GetI S w X P R s' vs vz F w' :=
  ⟨hr, goesBx.grown h.box hg (fun b e => e ▸ hP), goesBx.grown h.res hg (fun b e => e ▸ hR), grow_seq h.gr hg fun j e => .inr e, G.grown h.par hg (fun b hb => hb.2.2.2)⟩
theorem GetI.put (h : GetI S w X P R s vs vz F wx) (G : Goes F) (hX : P ≠ X) (hP : w.heap.size ≤ P) (hR : R ≠ P) (i : Nat) (u : Value) (hi : i < vs.length) : GetI S w X P R s (vs.set i u) vz F (wx.setCell ⟨P, i, none⟩ u) :=
  have hg := grow_setCell wx P i u
  ⟨h.rd.grown hg (fun e => hX (by injection e)) (fun b hb e => by injection e with e; have := hb.2; omega), h.box.put i u hi, goesBx.grown h.res hg (fun b e => e ▸ hR), grow_seq h.gr hg fun j e => by injection e with e; left; omega, G.grown h.par hg (fun b hb => hb.2.1)⟩
theorem GetI.to (h : GetI S w X P R s vs vz F wx) (hF : F' (fun b => w.heap.size ≤ b ∧ b ≠ P ∧ b ≠ R ∧ b ≠ X) wx) : GetI S w X P R s vs vz F' wx := ⟨h.rd, h.box, h.res, h.gr, hF⟩
theorem GetI.fin (h : GetI S w X P R s vs vz F wx) (G : Goes F) (hg : wx.grownBy w' (some R)) (hX : R ≠ X) (hR : w.heap.size ≤ R) : F (fun b => w.heap.size ≤ b) w' ∧ RdAt S w' X s ∧ w.grownBy w' (some X) :=
  ⟨G.mono (G.grown h.par hg fun b hb => hb.2.2.1) fun b hb _ => hb.1, (h.rd.grown hg (fun e => hX (by injection e)) (fun b hb e => by injection e with e; have := hb.2; omega)).monoS fun b hb => hb.1, grow_seq h.gr hg fun j e => by injection e with e; left; omega⟩
/-- new rows lie in none of the boxes -/
theorem GetI.new (h : GetI S w X P R s vs vz F wx) {b : Nat} (hb : wx.heap.size ≤ b) : w.heap.size ≤ b ∧ b ≠ P ∧ b ≠ R ∧ b ≠ X := by
  have h1 := h.gr.size; have h2 := h.box.lt; have h3 := h.res.lt; have h4 := h.rd.lt
  omega
end
def StmF (A1 : Option Addr) (n1 c1 : Nat) (A2 : Option Addr) (n2 c2 : Nat) (b : B) (l : List Val) : (Nat → Prop) → World → Prop := fun S w => Sl S w A1 n1 c1 b ∧ Arr 2 (valP S w) S w A2 n2 c2 l
theorem goesStmF {A1 : Option Addr} {n1 c1 : Nat} {A2 : Option Addr} {n2 c2 : Nat} {b : B} {l : List Val} : Goes (StmF A1 n1 c1 A2 n2 c2 b l) :=
  ⟨fun h hs hk => ⟨goesSl.keep h.1 hs hk, goesArrV.keep h.2 hs hk⟩, fun h hS => ⟨goesSl.mono h.1 hS, goesArrV.mono h.2 hS⟩⟩
theorem grow4 (w : World) (R : Nat) (u0 u1 u2 u3 : Value) : w.grownBy ((((w.setCell ⟨R, 0, none⟩ u0).setCell ⟨R, 1, none⟩ u1).setCell ⟨R, 2, none⟩ u2).setCell ⟨R, 3, none⟩ u3) (some R) := grow_seq (grow_seq (grow_seq (grow_setCell _ R 0 u0) (grow_setCell _ R 1 u1) fun j e => .inr e) (grow_setCell _ R 2 u2) fun j e => .inr e) (grow_setCell _ R 3 u3) fun j e => .inr e
end Go.Proofs.Sb
namespace Sb
theorem stm_one {s s1 s2 s3 : Wr} {k : Nat} {t : B} {l : List (B × Val)} (hk : k = gV 0 (getN 1) s) (h1 : s1 = gR (getN 1) s) (h2 : s2 = mustR (decide (k ≤ 1)) 11 s1) (h3 : s3 = gR getText s2) (e : k = 1) (ht : t = gV [] getText s2) (hl : Tie (getVals false) s3 l) : gR (getVals false) s3 = gR getStm s ∧ Tie getStm s ⟨true, [], t, l.map (·.2)⟩ := by
  have hf : ∀ b : B, (if 1 < k then (.error 11 : Res Stm) else bindR (if k = 1 then bindR (getText b) fun s r => .ok ((⟨true, [], s, []⟩ : Stm), r) else bindR (getLong b) fun s r => .ok ((⟨false, s, [], []⟩ : Stm), r)) fun s b => bindR (getVals false b) fun l b => .ok ({ s with values := l.map (·.2) }, b)) = if decide (k ≤ 1) = false then .error 11 else bindR (getText b) fun t b => bindR (getVals false b) fun l b => .ok (⟨true, [], t, l.map (·.2)⟩, b) := by
    intro b
    subst e
    rw [if_neg (by decide : ¬ 1 < 1), if_pos rfl, if_neg (by decide)]
    cases getText b with
    | error e => rfl
    | ok p => rfl
  have hq : getStm = fun b => bindR (getN 1 b) fun k b => if 1 < k then .error 11 else bindR (if k = 1 then bindR (getText b) fun s r => .ok ((⟨true, [], s, []⟩ : Stm), r) else bindR (getLong b) fun s r => .ok ((⟨false, s, [], []⟩ : Stm), r)) fun s b => bindR (getVals false b) fun l b => .ok ({ s with values := l.map (·.2) }, b) := rfl
  constructor
  · rw [hq, gR_bind 0, ← hk, ← h1]
    simp only [hf]
    rw [gR_must, ← h2, gR_bind [], ← ht, ← h3, gR_bindT hl, Go.Proofs.Sb.gR_pure]
  · rw [hq]
    refine tie_bind (d := 0) ?_
    rw [← hk, ← h1]
    simp only [hf]
    refine tie_must ?_
    rw [← h2]
    refine tie_bind (d := []) ?_
    rw [← ht, ← h3]
    refine tie_bindT hl ?_
    exact Go.Proofs.Sb.tie_pure _ _
theorem stm_two {s s1 s2 s3 : Wr} {k : Nat} {t : B} {l : List (B × Val)} (hk : k = gV 0 (getN 1) s) (h1 : s1 = gR (getN 1) s) (h2 : s2 = mustR (decide (k ≤ 1)) 11 s1) (h3 : s3 = gR getLong s2) (e : k ≠ 1) (ht : t = gV [] getLong s2) (hl : Tie (getVals false) s3 l) : gR (getVals false) s3 = gR getStm s ∧ Tie getStm s ⟨false, t, [], l.map (·.2)⟩ := by
  have hf : ∀ b : B, (if 1 < k then (.error 11 : Res Stm) else bindR (if k = 1 then bindR (getText b) fun s r => .ok ((⟨true, [], s, []⟩ : Stm), r) else bindR (getLong b) fun s r => .ok ((⟨false, s, [], []⟩ : Stm), r)) fun s b => bindR (getVals false b) fun l b => .ok ({ s with values := l.map (·.2) }, b)) = if decide (k ≤ 1) = false then .error 11 else bindR (getLong b) fun t b => bindR (getVals false b) fun l b => .ok (⟨false, t, [], l.map (·.2)⟩, b) := by
    intro b
    by_cases hk1 : k ≤ 1
    · rw [if_neg (by omega : ¬ 1 < k), if_neg e, if_neg (by simp [hk1])]
      cases getLong b with
      | error e => rfl
      | ok p => rfl
    · rw [if_pos (by omega), if_pos (by simp [hk1])]
  have hq : getStm = fun b => bindR (getN 1 b) fun k b => if 1 < k then .error 11 else bindR (if k = 1 then bindR (getText b) fun s r => .ok ((⟨true, [], s, []⟩ : Stm), r) else bindR (getLong b) fun s r => .ok ((⟨false, s, [], []⟩ : Stm), r)) fun s b => bindR (getVals false b) fun l b => .ok ({ s with values := l.map (·.2) }, b) := rfl
  constructor
  · rw [hq, gR_bind 0, ← hk, ← h1]
    simp only [hf]
    rw [gR_must, ← h2, gR_bind [], ← ht, ← h3, gR_bindT hl, Go.Proofs.Sb.gR_pure]
  · rw [hq]
    refine tie_bind (d := 0) ?_
    rw [← hk, ← h1]
    simp only [hf]
    refine tie_must ?_
    rw [← h2]
    refine tie_bind (d := []) ?_
    rw [← ht, ← h3]
    refine tie_bindT hl ?_
    exact Go.Proofs.Sb.tie_pure _ _
end Sb
namespace Go.Proofs.Sb
open Go.RowKit _root_.Sb
def zeroS : List Value := [.bool false, .string ⟨#[]⟩, .slice none 0 0, .slice none 0 0]
set_option maxHeartbeats 8000000 in
set_option maxRecDepth 100000 in
theorem rstm_any {S : Nat → Prop} {w : World} {X : Nat} {s : Wr} (h : RdAt S w X s) (hS : ∀ b, S b → b ≠ X) :
    Calls Try.prog 47 #[.pointer (some ⟨X, 0, none⟩)] w fun e w' => ∃ x A1 n1 c1 A2 n2 c2, e = .returned (.agg #[.bool x.prepared, .string (str x.text), .slice A1 n1 c1, .slice A2 n2 c2]) ∧ x.text.length ≤ 9223372036854775807 ∧ StmF A1 n1 c1 A2 n2 c2 x.ident x.values (fun b => w.heap.size ≤ b) w' ∧ RdAt S w' X (gR getStm s) ∧ w.grownBy w' (some X) ∧ Tie getStm s x := by
  have hlt := h.lt
  have HS := Lib.hid hS; clear hS
  have hA0 : RdAt (fun b => S b ∧ b < w.heap.size) w X s := by
    obtain ⟨A, n, c, h0, h1, h2, h3, h4⟩ := h
    exact ⟨A, n, c, h0, h1, h2, fun cur e => ⟨(h3 cur e).1.lt, (h3 cur e).2⟩, h4⟩
  have HA := Lib.hid hA0; clear hA0 h
  have HS9 := Lib.hid (fun b (h : S b ∧ b < w.heap.size) => HS.out b h.1)
  obtain ⟨k, hk⟩ : ∃ k, k = gV 0 (getN 1) s := ⟨_, rfl⟩
  obtain ⟨s1, hs1⟩ : ∃ s1, s1 = gR (getN 1) s := ⟨_, rfl⟩
  obtain ⟨s2, hs2⟩ : ∃ s2, s2 = mustR (decide (k ≤ 1)) 11 s1 := ⟨_, rfl⟩
  have HK := Lib.hid hk; clear hk
  have HS1 := Lib.hid hs1; clear hs1
  have HS2 := Lib.hid hs2; clear hs2
  go_enter Try.func47, Try.ntmps47
  go_wp2_with fail
  refine (rnumq_any (k := 1) (HA.out.after (by repeat (first | exact Below.refl _ _ | assumption | refine Below.drew ?_ | refine below_drewN ?_ _ | refine Below.alloc ?_ (by first | (simp; done) | omega | (simp; omega)) _ | refine Below.setCell ?_ (by first | (simp; done) | omega | (simp; omega)) _))) HS9.out (by omega) (by omega)).mono ?_
  rintro e w1 ⟨rfl, ha1, hg1⟩
  rw [← HK.out]
  rw [← HS1.out] at ha1
  have I1 : Hid (GetI S w X (w.heap.size + 1) w.heap.size s1 zeroS zeroS (StmF none 0 0 none 0 0 [] []) w1) := by
    have hb : Below (w.alloc (.cells zeroS.toArray 58)).heap.size (w.alloc (.cells zeroS.toArray 58)) ((w.alloc (.cells zeroS.toArray 58)).alloc (.cells zeroS.toArray 58)) := (Below.refl _ _).alloc (Nat.le_refl _) _
    exact ⟨ha1, goesBx.grown (Bx.alloc (w.alloc _) zeroS.toArray 58 (S := fun b => b = w.heap.size + 1) (by simp) (by simp)) hg1 (fun b e => by omega), goesBx.grown ((Bx.alloc w zeroS.toArray 58 (S := fun b => b = w.heap.size) rfl rfl).after hb) hg1 (fun b e => by omega), grow_alloc (grow_alloc hg1), Sl.nil, Arr.nil⟩
  clear ha1 hg1
  have q2 := I1.out.box.lt
  have q3 := I1.out.res.lt
  have k0 := I1.out.box.c 0 _ rfl
  have z0 := I1.out.box.fr 0
  go_wp2_with fail
  refine (rmust_any (er := 11) I1.out.rd HS9.out (by decide)).mono ?_
  rintro e2 w2 ⟨rfl, ha2, hg2⟩
  have hdec : decide ((k : Int) ≤ 1) = decide (k ≤ 1) := by simp only [decide_eq_decide]; omega
  rw [hdec, ← HS2.out] at ha2
  have I2 := Lib.hid (I1.out.step goesStmF (by omega) (by omega) ha2 hg2)
  clear ha2 hg2 q2 q3 k0 z0 hdec
  have q2 := I2.out.box.lt
  have q3 := I2.out.res.lt
  have k0 := I2.out.box.c 0 _ rfl
  have z0 := I2.out.box.fr 0
  have k1 := I2.out.box.c 1 _ rfl
  have z1 := I2.out.box.fr 1
  have k2 := I2.out.box.c 2 _ rfl
  have z2 := I2.out.box.fr 2

  by_cases hk1 : k = 1
  · subst hk1
    have I3 := Lib.hid (I2.out.put goesStmF (by omega) (by omega) (by omega) 0 (.bool true) (by show 0 < 4; decide))
    go_wp2_with fail
    refine (rshort8_any I3.out.rd HS9.out).mono ?_
    rintro e3 w3 ⟨⟨B1, m1, d1, rfl, hs4⟩, ha3, hg3⟩
    obtain ⟨t, ht⟩ : ∃ t, t = gV [] getText s2 := ⟨_, rfl⟩
    obtain ⟨s3, hs3⟩ : ∃ x, x = gR getText s2 := ⟨_, rfl⟩
    rw [← ht] at hs4
    rw [← hs3] at ha3
    have HT := Lib.hid ht; clear ht
    have HS3 := Lib.hid hs3; clear hs3
    have I4 := Lib.hid ((I3.out.step goesStmF (by omega) (by omega) ha3 hg3).to (F' := StmF B1 m1 d1 none 0 0 t []) ⟨hs4.mono fun b hb _ => I3.out.new hb, Arr.nil⟩)
    clear hs4 ha3 hg3
    clear q2 q3 k0 z0 k1 z1 k2 z2
    have q2 := I4.out.box.lt
    have q3 := I4.out.res.lt
    have k2 := I4.out.box.c 2 _ rfl
    have z2 := I4.out.box.fr 2
    have I5 := Lib.hid (I4.out.put goesStmF (by omega) (by omega) (by omega) 2 (.slice B1 m1 d1) (by show 2 < 4; decide))
    go_wp2_with fail
    refine (rvalues_any (named := false) I5.out.rd HS9.out).mono ?_
    rintro e5 w5 ⟨B2, m2, d2, B3, m3, d3, l, rfl, hv5, hn5, ha5, hg5, ht5⟩
    clear hn5
    have I6 := Lib.hid ((I5.out.step goesStmF (by omega) (by omega) ha5 hg5).to (F' := StmF B1 m1 d1 B2 m2 d2 t (l.map (·.2))) ⟨(I5.out.step goesStmF (by omega) (by omega) ha5 hg5).par.1, goesArrV.mono hv5 fun b hb _ => I5.out.new hb⟩)
    have HFI := Lib.hid (stm_one HK.out HS1.out HS2.out HS3.out rfl HT.out ht5)
    clear hv5 ha5 hg5 ht5 q2 q3 k2 z2
    have q2 := I6.out.box.lt
    have q3 := I6.out.res.lt
    have k0 := I6.out.box.c 0 _ rfl
    have k1 := I6.out.box.c 1 _ rfl
    have k2 := I6.out.box.c 2 _ rfl
    have k3 := I6.out.box.c 3 _ rfl
    have z3 := I6.out.box.fr 3
    have o0 := I6.out.res.c 0 _ rfl
    have y0 := I6.out.res.fr 0
    have o1 := I6.out.res.c 1 _ rfl
    have y1 := I6.out.res.fr 1
    have o2 := I6.out.res.c 2 _ rfl
    have y2 := I6.out.res.fr 2
    have o3 := I6.out.res.c 3 _ rfl
    have y3 := I6.out.res.fr 3
    have I7 := Lib.hid (I6.out.put goesStmF (by omega) (by omega) (by omega) 3 (.slice B2 m2 d2) (by show 3 < 4; decide))
    go_wp2_with fail
    have HX := Lib.hid (I7.out.fin goesStmF (grow4 _ w.heap.size (.bool true) (.string ⟨#[]⟩) (.slice B1 m1 d1) (.slice B2 m2 d2)) (by omega) (Nat.le_refl _))
    refine bodyPost_ret (v := .agg #[.bool true, .string ⟨#[]⟩, .slice B1 m1 d1, .slice B2 m2 d2]) (by simp [results, Try.results47]; go_simp) rfl ?_
    exact ⟨⟨true, [], t, l.map (·.2)⟩, B1, m1, d1, B2, m2, d2, rfl, Nat.zero_le _, HX.out.1, by rw [← HFI.out.1]; exact HX.out.2.1, HX.out.2.2, HFI.out.2⟩
  · have hk2 : ((k : Int) == 1) = false := by simp; omega
    have HK1 := Lib.hid hk1; clear hk1
    have I3 := Lib.hid (I2.out.put goesStmF (by omega) (by omega) (by omega) 0 (.bool false) (by show 0 < 4; decide))
    go_wp2_with fail
    refine (rdx_long I3.out.rd HS9.out).mono ?_
    rintro e3 w3 ⟨rfl, ha3, hg3⟩
    have htl : (gV [] getLong s2).length ≤ 9223372036854775807 := by
      have := gV_text getLong (fun b x r h => by obtain ⟨y, h1, h2⟩ := long_fore b x r h; injection h1 with h1; rw [← h2, ← h1]; unfold long; simp only [List.length_append]; omega) s2 (fun cur h => by obtain ⟨A, n, c, _, _, _, h3, _⟩ := I3.out.rd; have := (h3 _ h).2; have := (h3 _ h).1.len; omega)
      omega
    obtain ⟨t, ht⟩ : ∃ t, t = gV [] getLong s2 := ⟨_, rfl⟩
    obtain ⟨s3, hs3⟩ : ∃ x, x = gR getLong s2 := ⟨_, rfl⟩
    rw [← ht] at htl ⊢
    rw [← hs3] at ha3
    have HT := Lib.hid ht; clear ht
    have HS3 := Lib.hid hs3; clear hs3
    have I4 := Lib.hid (I3.out.step goesStmF (by omega) (by omega) ha3 hg3)
    clear ha3 hg3
    clear q2 q3 k0 z0 k1 z1 k2 z2
    have q2 := I4.out.box.lt
    have q3 := I4.out.res.lt
    have k1 := I4.out.box.c 1 _ rfl
    have z1 := I4.out.box.fr 1
    have I5 := Lib.hid (I4.out.put goesStmF (by omega) (by omega) (by omega) 1 (.string (str t)) (by show 1 < 4; decide))
    go_wp2_with fail
    refine (rvalues_any (named := false) I5.out.rd HS9.out).mono ?_
    rintro e5 w5 ⟨B2, m2, d2, B3, m3, d3, l, rfl, hv5, hn5, ha5, hg5, ht5⟩
    clear hn5
    have I6 := Lib.hid ((I5.out.step goesStmF (by omega) (by omega) ha5 hg5).to (F' := StmF none 0 0 B2 m2 d2 [] (l.map (·.2))) ⟨(I5.out.step goesStmF (by omega) (by omega) ha5 hg5).par.1, goesArrV.mono hv5 fun b hb _ => I5.out.new hb⟩)
    have HFI := Lib.hid (stm_two HK.out HS1.out HS2.out HS3.out HK1.out HT.out ht5)
    clear hv5 ha5 hg5 ht5 q2 q3 k1 z1
    have q2 := I6.out.box.lt
    have q3 := I6.out.res.lt
    have k0 := I6.out.box.c 0 _ rfl
    have k1 := I6.out.box.c 1 _ rfl
    have k2 := I6.out.box.c 2 _ rfl
    have k3 := I6.out.box.c 3 _ rfl
    have z3 := I6.out.box.fr 3
    have o0 := I6.out.res.c 0 _ rfl
    have y0 := I6.out.res.fr 0
    have o1 := I6.out.res.c 1 _ rfl
    have y1 := I6.out.res.fr 1
    have o2 := I6.out.res.c 2 _ rfl
    have y2 := I6.out.res.fr 2
    have o3 := I6.out.res.c 3 _ rfl
    have y3 := I6.out.res.fr 3
    have I7 := Lib.hid (I6.out.put goesStmF (by omega) (by omega) (by omega) 3 (.slice B2 m2 d2) (by show 3 < 4; decide))
    go_wp2_with fail
    have HX := Lib.hid (I7.out.fin goesStmF (grow4 _ w.heap.size (.bool false) (.string (str t)) (.slice none 0 0) (.slice B2 m2 d2)) (by omega) (Nat.le_refl _))
    refine bodyPost_ret (v := .agg #[.bool false, .string (str t), .slice none 0 0, .slice B2 m2 d2]) (by simp [results, Try.results47]; go_simp) rfl ?_
    exact ⟨⟨false, t, [], l.map (·.2)⟩, none, 0, 0, B2, m2, d2, rfl, htl, HX.out.1, by rw [← HFI.out.1]; exact HX.out.2.1, HX.out.2.2, HFI.out.2⟩
end Go.Proofs.Sb
