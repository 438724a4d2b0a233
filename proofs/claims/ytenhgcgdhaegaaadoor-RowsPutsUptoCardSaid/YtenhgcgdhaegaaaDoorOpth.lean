/- Words for option.reader's option. No conditions. -/
import Derived.Test.YtenhgcgdhaegaaaDoorOptg
import Derived.Test.YtenhgcgdhaegaaaDoorOptp
import Derived.Test.YtenhgcgdhaegaaaDoorMaps
import Derived.Laws.Runes
set_option linter.unusedVariables false
set_option linter.unusedSimpArgs false
namespace Sb
def nmsO (id : Nat) (l : List (B × Opt)) : List B := if id = 48 then l.map (·.1) else []
theorem mkO_nms (id : Nat) (h : B × B) (l : List (B × Opt)) : mkO id h l = ⟨id, h.1, h.2, nmsO id l, l.map (·.2)⟩ := rfl
theorem shortV_lt (s : Wr) : shortV s < 65536 := by
  cases s with
  | error e => exact Nat.zero_lt_succ _
  | ok cur =>
    cases h : getN 2 cur with
    | error e => rw [shortV_ok h]; exact Nat.zero_lt_succ _
    | ok x => rw [shortV_ok h]; exact (getN_ok (x := x.1) (r := x.2) h).2.2.2
theorem textV_len (s : Wr) : (textV s).length ≤ 65535 := by
  cases s with
  | error e => exact Nat.zero_le _
  | ok cur =>
    cases h : getText cur with
    | error e => rw [textV_ok h]; exact Nat.zero_le _
    | ok x => rw [textV_ok h]; exact (getText_ok (x := x.1) (r := x.2) h).1
/-- how far the reading of a type's types is -/
def Prg (n id m : Nat) (s3 : Wr) (k : Nat) (l : List (B × Opt)) (st : Wr) : Prop :=
  (∀ rest, st = .ok rest → ∃ c0, s3 = .ok c0 ∧ getsM (kidR (getO n) id) k c0 = .ok (l, rest)) ∧
  (∀ e, st = .error e → (∀ c0, s3 = .ok c0 → getsM (kidR (getO n) id) m c0 = .error e) ∧ (∀ e', s3 = .error e' → e = e'))
theorem Prg.zero (n id m : Nat) (s3 : Wr) : Prg n id m s3 0 [] s3 := ⟨fun rest h => ⟨rest, h, rfl⟩, fun e h => ⟨fun c0 h2 => (by rw [h] at h2; cases h2), fun e' h2 => (by rw [h] at h2; injection h2)⟩⟩
theorem Prg.step {n id m k : Nat} {s3 : Wr} {l : List (B × Opt)} {rest : B} (h : Prg n id m s3 k l (.ok rest)) (hk : k < m) (p : B × Opt) (st : Wr) (h1 : ∀ r2, st = .ok r2 → kidR (getO n) id rest = .ok (p, r2)) (h2 : ∀ e, st = .error e → kidR (getO n) id rest = .error e) : Prg n id m s3 (k + 1) (l ++ [p]) st := by
  obtain ⟨c0, hc, hg⟩ := h.1 rest rfl
  refine ⟨fun r2 hr => ⟨c0, hc, getsM_snoc hg (h1 r2 hr)⟩, fun e he => ⟨fun c1 h3 => ?_, fun e' h3 => ?_⟩⟩
  · rw [hc] at h3
    injection h3 with h3
    subst h3
    exact getsM_stop hk hg (h2 e he)
  · rw [hc] at h3; cases h3
/-- what a reading gives, out of what stands behind its head -/
def finO (n id m : Nat) (hd : B × B) : Wr → Res Opt
  | .error e => .error e
  | .ok c0 => match getsM (kidR (getO n) id) m c0 with
    | .error e => .error e
    | .ok (l, r) => .ok (mkO id hd l, r)
theorem Prg.fin {n id m k : Nat} {s3 : Wr} {l : List (B × Opt)} {st : Wr} {hd : B × B} (h : Prg n id m s3 k l st) (hx : k = m ∨ ∃ e, st = .error e) (r : Res Opt) (hr : finO n id m hd s3 = r) : (∀ x rest, r = .ok (x, rest) → mkO id hd l = x ∧ st = .ok rest) ∧ (∀ e, r = .error e → st = .error e) := by
  subst hr
  cases st with
  | ok rest =>
    obtain ⟨c0, hc, hg⟩ := h.1 rest rfl
    rcases hx with rfl | ⟨e, he⟩
    · subst hc
      simp only [finO, hg]
      exact ⟨fun x r2 h => by injection h with h; injection h with h1 h2; exact ⟨h1, by rw [h2]⟩, fun e h => by cases h⟩
    · cases he
  | error e =>
    obtain ⟨h1, h2⟩ := h.2 e rfl
    cases s3 with
    | error e' =>
      have := h2 e' rfl
      subst this
      exact ⟨fun x r2 h => (by cases h), fun e1 h => by injection h with h; rw [h]⟩
    | ok c0 =>
      simp only [finO, h1 c0 rfl]
      exact ⟨fun x r2 h => (by cases h), fun e1 h => by injection h with h; rw [h]⟩
theorem getO_bad {n : Nat} {cur rest : B} {id : Nat} (h : getN 2 cur = .ok (id, rest)) (h2 : kn id = -2) : getO (n + 1) cur = .error 11 := by simp only [getO, h, if_pos h2]
theorem getO_err {n : Nat} {cur : B} {e : Int} (h : getN 2 cur = .error e) : getO (n + 1) cur = .error e := by simp only [getO, h]
theorem getO_fin {n : Nat} {cur rest : B} {id : Nat} (h : getN 2 cur = .ok (id, rest)) (h2 : kn id ≠ -2) (hd : B × B) (m : Nat) (s3 : Wr) (hh : (∃ e, headR id rest = .error e ∧ s3 = .error e) ∨ (∃ r1, headR id rest = .ok (hd, r1) ∧ ((∃ e, cntR id r1 = .error e ∧ s3 = .error e) ∨ ∃ r2, cntR id r1 = .ok (m, r2) ∧ s3 = .ok r2))) : getO (n + 1) cur = finO n id m hd s3 := by
  simp only [getO, h, if_neg h2]
  rcases hh with ⟨e, h3, rfl⟩ | ⟨r1, h3, ⟨e, h4, rfl⟩ | ⟨r2, h4, rfl⟩⟩
  · rw [h3]; rfl
  · rw [h3]; simp only; rw [h4]; rfl
  · rw [h3]; simp only; rw [h4]; rfl
theorem cntR_short {id : Nat} (h : kn id < 0) (b : B) : (∃ e, cntR id b = .error e ∧ shortR (.ok b) = .error e) ∨ ∃ r2, cntR id b = .ok (shortV (.ok b), r2) ∧ shortR (.ok b) = .ok r2 := by
  unfold cntR
  rw [if_pos h]
  cases h1 : getN 2 b with
  | error e => exact .inl ⟨e, rfl, shortR_err h1⟩
  | ok x => exact .inr ⟨x.2, by rw [shortV_ok h1]; rfl, shortR_ok h1⟩
theorem getO_else {n : Nat} {cur rest : B} {id : Nat} (h : getN 2 cur = .ok (id, rest)) (h2 : 0 ≤ kn id) (h0 : ¬ id = 0) : getO (n + 1) cur = finO n id (kn id).toNat ([], []) (.ok rest) := by
  have h48 : ¬ id = 48 := fun e => by rw [e, kn_48] at h2; omega
  refine getO_fin h (by omega) _ _ _ (.inr ⟨rest, by unfold headR; rw [if_neg h48, if_neg h0], .inr ⟨rest, by unfold cntR; rw [if_neg (by omega)], rfl⟩⟩)
theorem getO_0 {n : Nat} {cur rest : B} (h : getN 2 cur = .ok (0, rest)) : getO (n + 1) cur = finO n 0 0 ([], textV (.ok rest)) (textR (.ok rest)) := by
  have h2 : kn 0 = 0 := by decide
  refine getO_fin h (by rw [h2]; decide) _ _ _ ?_
  unfold headR
  rw [if_neg (by decide), if_pos rfl]
  cases h1 : getText rest with
  | error e => exact .inl ⟨e, rfl, textR_err h1⟩
  | ok x => exact .inr ⟨x.2, by rw [textV_ok h1]; rfl, .inr ⟨x.2, by unfold cntR; rw [h2, if_neg (by decide)]; rfl, textR_ok h1⟩⟩
theorem getO_49 {n : Nat} {cur rest : B} (h : getN 2 cur = .ok (49, rest)) : getO (n + 1) cur = finO n 49 (shortV (.ok rest)) ([], []) (shortR (.ok rest)) := by
  refine getO_fin h (by rw [kn_49]; decide) _ _ _ (.inr ⟨rest, by unfold headR; rw [if_neg (by decide), if_neg (by decide)], cntR_short (by rw [kn_49]; decide) rest⟩)
theorem shortR_of_err (e : Int) : shortR (.error e) = .error e := rfl
theorem textR_of_err (e : Int) : textR (.error e) = .error e := rfl
theorem getO_48 {n : Nat} {cur rest : B} (h : getN 2 cur = .ok (48, rest)) : getO (n + 1) cur = finO n 48 (shortV (textR (textR (.ok rest)))) (textV (.ok rest), textV (textR (.ok rest))) (shortR (textR (textR (.ok rest)))) := by
  refine getO_fin h (by rw [kn_48]; decide) _ _ _ ?_
  unfold headR bothR
  rw [if_pos rfl]
  cases h1 : getText rest with
  | error e => exact .inl ⟨e, rfl, by rw [textR_err h1]; rfl⟩
  | ok x =>
    rw [textR_ok h1, textV_ok h1]
    simp only [rval_ok]
    cases h3 : getText x.2 with
    | error e => exact .inl ⟨e, rfl, by rw [textR_err h3]; rfl⟩
    | ok y =>
      rw [textR_ok h3, textV_ok h3]
      exact .inr ⟨y.2, rfl, cntR_short (by rw [kn_48]; decide) y.2⟩
theorem kidR_no {g : B → Res Opt} {id : Nat} (h : ¬ id = 48) (rest : B) : kidR g id rest = match g rest with
    | .error e => .error e
    | .ok (x, r) => .ok (([], x), r) := by
  unfold kidR bothR nameR
  rw [if_neg h]
  simp only
  cases g rest with
  | error e => rfl
  | ok x => rfl
theorem nms_snoc_no {id : Nat} (h : ¬ id = 48) (l : List (B × Opt)) (p : B × Opt) : nmsO id (l ++ [p]) = nmsO id l := by unfold nmsO; rw [if_neg h, if_neg h]
theorem nms_snoc_48 (l : List (B × Opt)) (p : B × Opt) : nmsO 48 (l ++ [p]) = nmsO 48 l ++ [p.1] := by unfold nmsO; rw [if_pos rfl, if_pos rfl]; simp
end Sb
namespace Go.Proofs.Sb
open Go.RowKit _root_.Sb

/-- a box of five cells -/
structure BoxAt (w : World) (k : Nat) (v0 v1 v2 v3 v4 : Value) : Prop where
  c0 : w.cell? ⟨k, 0, none⟩ = some v0
  c1 : w.cell? ⟨k, 1, none⟩ = some v1
  c2 : w.cell? ⟨k, 2, none⟩ = some v2
  c3 : w.cell? ⟨k, 3, none⟩ = some v3
  c4 : w.cell? ⟨k, 4, none⟩ = some v4
  fr : ∀ o, w.frozen? ⟨k, o, none⟩ = false
section
variable {w w' : World} {k : Nat} {v0 v1 v2 v3 v4 : Value}
theorem BoxAt.lt (h : BoxAt w k v0 v1 v2 v3 v4) : k < w.heap.size := World.block_lt_of_cell? w ⟨k, 0, none⟩ h.c0
theorem BoxAt.grown {row : Option Nat} (h : BoxAt w k v0 v1 v2 v3 v4) (hg : w.grownBy w' row) (hr : row ≠ some k) : BoxAt w' k v0 v1 v2 v3 v4 :=
  ⟨gcx hg hr h.c0, gcx hg hr h.c1, gcx hg hr h.c2, gcx hg hr h.c3, gcx hg hr h.c4, fun o => gfroz hg (fun e => hr e.symm) h.lt (h.fr o)⟩
theorem BoxAt.after (h : BoxAt w k v0 v1 v2 v3 v4) (hb : Below w.heap.size w w') : BoxAt w' k v0 v1 v2 v3 v4 :=
  ⟨kcell hb h.c0, kcell hb h.c1, kcell hb h.c2, kcell hb h.c3, kcell hb h.c4, fun o => kfroz hb h.lt (h.fr o)⟩
theorem BoxAt.setOther (h : BoxAt w k v0 v1 v2 v3 v4) {j i : Nat} (hne : k ≠ j) (u : Value) : BoxAt (w.setCell ⟨j, i, none⟩ u) k v0 v1 v2 v3 v4 :=
  h.grown (grow_setCell w j i u) fun e => hne (by injection e with e; exact e.symm)
theorem BoxAt.set3 (h : BoxAt w k v0 v1 v2 v3 v4) (u : Value) : BoxAt (w.setCell ⟨k, 3, none⟩ u) k v0 v1 v2 u v4 := by
  obtain ⟨h0, h1, h2, h3, h4, h5⟩ := h
  exact ⟨by go_simp, by go_simp, by go_simp, by go_simp, by go_simp, fun o => by simp [h5]⟩
theorem BoxAt.set4 (h : BoxAt w k v0 v1 v2 v3 v4) (u : Value) : BoxAt (w.setCell ⟨k, 4, none⟩ u) k v0 v1 v2 v3 u := by
  obtain ⟨h0, h1, h2, h3, h4, h5⟩ := h
  exact ⟨by go_simp, by go_simp, by go_simp, by go_simp, by go_simp, fun o => by simp [h5]⟩
theorem BoxAt.set1 (h : BoxAt w k v0 v1 v2 v3 v4) (u : Value) : BoxAt (w.setCell ⟨k, 1, none⟩ u) k v0 u v2 v3 v4 := by
  obtain ⟨h0, h1, h2, h3, h4, h5⟩ := h
  exact ⟨by go_simp, by go_simp, by go_simp, by go_simp, by go_simp, fun o => by simp [h5]⟩
theorem BoxAt.set2 (h : BoxAt w k v0 v1 v2 v3 v4) (u : Value) : BoxAt (w.setCell ⟨k, 2, none⟩ u) k v0 v1 u v3 v4 := by
  obtain ⟨h0, h1, h2, h3, h4, h5⟩ := h
  exact ⟨by go_simp, by go_simp, by go_simp, by go_simp, by go_simp, fun o => by simp [h5]⟩
end
theorem box_new (w : World) (t : TypeId) (v0 v1 v2 v3 v4 : Value) : BoxAt (w.alloc (.cells #[v0, v1, v2, v3, v4] t)) w.heap.size v0 v1 v2 v3 v4 :=
  ⟨by go_simp, by go_simp, by go_simp, by go_simp, by go_simp, fun o => by go_simp⟩
theorem RdAt.set {S : Nat → Prop} {w : World} {X : Nat} {s : Wr} (h : RdAt S w X s) {j i : Nat} (hj : X ≠ j) (hS : ∀ b, S b → b ≠ j) (u : Value) : RdAt S (w.setCell ⟨j, i, none⟩ u) X s :=
  h.grown (grow_setCell w j i u) (fun e => hj (by injection e with e; exact e.symm)) fun b hb e => hS b hb (by injection e with e; exact e.symm)
theorem RdAt.fail {S : Nat → Prop} {w : World} {X : Nat} {s : Wr} (h : RdAt S w X s) {e : Int} (he : e ≠ 0) : RdAt S (w.setCell ⟨X, 1, none⟩ (.int .i64 e)) X (.error e) := by
  obtain ⟨A, n, c, h0, h1, h2, h3, h4⟩ := h
  exact ⟨A, n, c, by go_simp, by go_simp, fun o => by simp [h2], fun cur e => (by cases e), fun e1 h => (by injection h with h; rw [← h]; exact he)⟩
theorem grow5 (w : World) (k : Nat) (v0 v1 v2 v3 v4 : Value) : w.grownBy (((((w.setCell ⟨k, 0, none⟩ v0).setCell ⟨k, 1, none⟩ v1).setCell ⟨k, 2, none⟩ v2).setCell ⟨k, 3, none⟩ v3).setCell ⟨k, 4, none⟩ v4) (some k) :=
  grow_seq (grow_seq (grow_seq (grow_seq (grow_setCell _ _ _ _) (grow_setCell _ _ _ _) fun j e => .inr e) (grow_setCell _ _ _ _) fun j e => .inr e) (grow_setCell _ _ _ _) fun j e => .inr e) (grow_setCell _ _ _ _) fun j e => .inr e
theorem tyOpt : Ty 60 62 5 88 (.agg #[.int .u16 0, .string ByteArray.empty, .string ByteArray.empty, .slice none 0 0, .slice none 0 0]) := ⟨Tryd.underlying60, by kernel_rfl, rfl, by decide⟩
end Go.Proofs.Sb

/- What option.reader's option does. No conditions. (written by gen_optread.py) -/
namespace Sb
def RdPost (n : Nat) (s : Wr) (o : Opt) (s' : Wr) : Prop := (∀ cur, s = .ok cur → ∀ r, getO n cur = r → (∀ x rest, r = .ok (x, rest) → o = x ∧ s' = .ok rest) ∧ (∀ e, r = .error e → s' = .error e)) ∧ (∀ e, s = .error e → s' = .error e)
end Sb
namespace Go.Proofs.Sb
open Go.RowKit _root_.Sb
theorem kid_no {n id : Nat} {rs : B} {ox : Opt} {sx : Wr} (h48 : ¬ id = 48) (h : RdPost n (.ok rs) ox sx) : (∀ r2, sx = .ok r2 → kidR (getO n) id rs = .ok (([], ox), r2)) ∧ (∀ e, sx = .error e → kidR (getO n) id rs = .error e) := by
  have h1 := h.1 rs rfl _ rfl
  rw [kidR_no h48]
  cases hq : getO n rs with
  | error e =>
    rw [hq] at h1
    have h2 := h1.2 e rfl
    exact ⟨fun r2 h3 => (by rw [h2] at h3; cases h3), fun e3 h3 => (by rw [h2] at h3; injection h3 with h3; subst h3; rfl)⟩
  | ok x =>
    rw [hq] at h1
    obtain ⟨h2, h4⟩ := h1.1 x.1 x.2 rfl
    subst h2
    exact ⟨fun r2 h3 => (by rw [h4] at h3; injection h3 with h3; subst h3; rfl), fun e3 h3 => (by rw [h4] at h3; cases h3)⟩
theorem kid_48 {n : Nat} {rs : B} {ox : Opt} {sx : Wr} (h : RdPost n (textR (.ok rs)) ox sx) : (∀ r2, sx = .ok r2 → kidR (getO n) 48 rs = .ok ((textV (.ok rs), ox), r2)) ∧ (∀ e, sx = .error e → kidR (getO n) 48 rs = .error e) := by
  unfold kidR bothR nameR
  rw [if_pos rfl]
  cases hg : getText rs with
  | error e =>
    rw [textR_err hg] at h
    have h2 := h.2 e rfl
    exact ⟨fun r2 h3 => (by rw [h2] at h3; cases h3), fun e3 h3 => (by rw [h2] at h3; injection h3 with h3; subst h3; rfl)⟩
  | ok y =>
    rw [textR_ok hg] at h
    have h1 := h.1 y.2 rfl _ rfl
    rw [textV_ok hg]
    simp only [rval_ok]
    cases hq : getO n y.2 with
    | error e =>
      rw [hq] at h1
      have h2 := h1.2 e rfl
      exact ⟨fun r2 h3 => (by rw [h2] at h3; cases h3), fun e3 h3 => (by rw [h2] at h3; injection h3 with h3; subst h3; rfl)⟩
    | ok x =>
      rw [hq] at h1
      obtain ⟨h2, h4⟩ := h1.1 x.1 x.2 rfl
      subst h2
      exact ⟨fun r2 h3 => (by rw [h4] at h3; injection h3 with h3; subst h3; rfl), fun e3 h3 => (by rw [h4] at h3; cases h3)⟩
def ReadO (n : Nat) : Prop := ∀ {S : Nat → Prop} {w : World} {X : Nat} {s : Wr} {deep : Int}, RdAt S w X s → (∀ b, S b → b < X) → 0 < X → Pl w → deep + n = 21 → 1 ≤ deep → Calls Tryd.prog 79 #[.pointer (some ⟨X, 0, none⟩), .int .i64 deep] w fun e w' => ∃ A1 n1 c1 A2 n2 c2 o s', e = .returned (optV o A1 n1 c1 A2 n2 c2) ∧ OptR (fun b => w.heap.size ≤ b) w' 9223372036854775807 n A1 n1 c1 A2 n2 c2 o ∧ RdAt S w' X s' ∧ w.grownBy w' (some X) ∧ RdPost n s o s'
/-- the cells of the types of one: behind its own box, in no row of its own -/
def Sel (O : Nat) (A1 A2 : Option Addr) (b : Nat) : Prop := O < b ∧ A1.map (·.block) ≠ some b ∧ A2.map (·.block) ≠ some b
end Go.Proofs.Sb

/- Walk over option.reader's option: an error. Conditions: the table of names reads as it was laid. (written by gen_optread.py) -/
namespace Go.Proofs.Sb
open Go.RowKit _root_.Sb

set_option maxHeartbeats 8000000 in
set_option maxRecDepth 100000 in
theorem readO_err {n : Nat} {S : Nat → Prop} {w : World} {X : Nat} {deep : Int} {ee : Int} (hrd : RdAt S w X (.error ee)) (hS : ∀ b, S b → b < X) (hX : 0 < X) (hpl : Pl w) (hdn : deep + n = 21) (hd1 : 1 ≤ deep) :
    Calls Tryd.prog 79 #[.pointer (some ⟨X, 0, none⟩), .int .i64 deep] w fun e w' => ∃ A1 n1 c1 A2 n2 c2 o s', e = .returned (optV o A1 n1 c1 A2 n2 c2) ∧ OptR (fun b => w.heap.size ≤ b) w' 9223372036854775807 n A1 n1 c1 A2 n2 c2 o ∧ RdAt S w' X s' ∧ w.grownBy w' (some X) ∧ RdPost n (.error ee) o s' := by
  have hXlt := hrd.lt
  have HRD := Lib.hid hrd
  have HS := Lib.hid hS; clear hS
  have HPL := Lib.hid hpl; clear hpl
  have hX1 : ∀ b, S b → b ≠ X := fun b h e => by have := HS.out b h; omega
  have HX1 := Lib.hid hX1; clear hX1
  obtain ⟨AX, nX, cX, g0, g1, g2, g3, g4⟩ := hrd
  have G2 := Lib.hid g2
  have f1 := g2 1
  clear g2 g3
  go_enter Tryd.func79, Tryd.ntmps79
  have hne : ee ≠ 0 := g4 ee rfl
  simp only [werr_error] at g1
  have hV0 : shortV (.error ee) = 0 := rfl
  have hR0 : shortR (.error ee) = .error ee := rfl
  have hzz : (0 : Int) ≠ ee := fun e => hne e.symm
  by_cases hd : 20 < deep
  all_goals
    go_wp2_with fail
    refine (rshort_any (HRD.out.after (by repeat (first | exact Below.refl _ _ | assumption | refine Below.drew ?_ | refine below_drewN ?_ _ | refine Below.alloc ?_ (by first | (simp; done) | omega | (simp; omega)) _ | refine Below.setCell ?_ (by first | (simp; done) | omega | (simp; omega)) _))) HX1.out).mono ?_
    rintro e1 w1 ⟨rfl, ha1, hg1⟩
    rw [hR0] at ha1
    have hgw : w.grownBy w1 (some X) := grow_seq (grow_of_below (row := some X) (by repeat (first | exact Below.refl _ _ | assumption | refine Below.drew ?_ | refine below_drewN ?_ _ | refine Below.alloc ?_ (by first | (simp; done) | omega | (simp; omega)) _ | refine Below.setCell ?_ (by first | (simp; done) | omega | (simp; omega)) _))) hg1 fun j e => .inr e
    have hR1 : BoxAt w1 w.heap.size (.int .u16 0) (.string (str [])) (.string (str [])) (.slice none 0 0) (.slice none 0 0) := (box_new w _ _ _ _ _ _).grown hg1 (fun e => by injection e with e; omega)
    have hz1 : w.heap.size < w1.heap.size := hR1.lt
    have HR1 := Lib.hid hR1; clear hR1
    have HA1 := Lib.hid ha1; clear ha1

    rw [hV0]
    clear g0 g1 f1
    go_wp2_with fail
    refine (kids_any (id := 0) (by omega) ((HPL.out.grown hgw (fun e => by injection e with e; omega)).after (by repeat (first | exact Below.refl _ _ | assumption | refine Below.drew ?_ | refine below_drewN ?_ _ | refine Below.alloc ?_ (by first | (simp; done) | omega | (simp; omega)) _ | refine Below.setCell ?_ (by first | (simp; done) | omega | (simp; omega)) _)))).mono ?_
    rintro e2 w2 ⟨rfl, hb2⟩
    have hO2 : BoxAt w2 w1.heap.size (.int .u16 0) (.string (str [])) (.string (str [])) (.slice none 0 0) (.slice none 0 0) := (box_new w1 _ _ _ _ _ _).after hb2
    have hz2 : w1.heap.size < w2.heap.size := hO2.lt
    have hb12 : Below w1.heap.size w1 w2 := Below.trans (by repeat (first | exact Below.refl _ _ | assumption | refine Below.drew ?_ | refine below_drewN ?_ _ | refine Below.alloc ?_ (by first | (simp; done) | omega | (simp; omega)) _ | refine Below.setCell ?_ (by first | (simp; done) | omega | (simp; omega)) _)) (hb2.mono (by simp))
    have hA2 : RdAt S w2 X (.error ee) := HA1.out.after hb12
    have HA2 := Lib.hid hA2
    obtain ⟨A2, n2, c2, e0, e1, e2, e3, e4⟩ := hA2
    have o0 := hO2.c0
    have HO2 := Lib.hid hO2; clear hO2
    simp only [werr_error] at e1
    clear e2 e3 e4
    rw [show knP 0 = 0 by decide]
    go_wp2_with fail
    refine (rdtext_any HA2.out HX1.out).mono ?_
    rintro e3 w3 ⟨rfl, ha3, hg3⟩
    have hO3 : BoxAt w3 w1.heap.size (.int .u16 0) (.string (str [])) (.string (str [])) (.slice none 0 0) (.slice none 0 0) := HO2.out.grown hg3 (fun e => by injection e with e; omega)
    have hz3 := hO3.lt
    have o2 := hO3.c2
    have oF := hO3.fr 2
    have HO3 := Lib.hid hO3; clear hO3
    have HA3 := Lib.hid ha3; clear ha3
    have hgw2 : w.grownBy w2 (some X) := grow_seq hgw (grow_of_below (row := some X) hb12) fun j e => .inr e
    have hgw3 : w.grownBy w3 (some X) := grow_seq hgw2 hg3 fun j e => .inr e
    have hR3 : BoxAt w3 w.heap.size (.int .u16 0) (.string (str [])) (.string (str [])) (.slice none 0 0) (.slice none 0 0) := (HR1.out.after hb12).grown hg3 (fun e => by injection e with e; omega)
    have HR3 := Lib.hid hR3; clear hR3
    rw [show textV (.error ee) = [] from rfl]
    clear o0 e0 e1
    go_wp2_with fail
    go_loopw [7] (fun i wr => i = .int .i64 0 ∧ BoxAt wr w1.heap.size (.int .u16 0) (.string (str [])) (.string (str [])) (.slice none 0 0) (.slice none 0 0) ∧ BoxAt wr w.heap.size (.int .u16 0) (.string (str [])) (.string (str [])) (.slice none 0 0) (.slice none 0 0) ∧ RdAt S wr X (.error ee) ∧ w.grownBy wr (some X)) (fun _ _ => 0)
    case atStart => exact ⟨rfl, HO3.out.set2 _, HR3.out.setOther (by omega) _, HA3.out.set (by omega) (fun b h => by have := HS.out b h; omega) _, grow_seq hgw3 (grow_setCell _ _ _ _) fun j e => by injection e with e; left; omega⟩
    case round =>
      obtain ⟨rfl, hO, hR, hA, hgr⟩ := hrel

      have HF := Lib.hid (OptR.none (S := fun b => w.heap.size < b) (w := wr) (M := 9223372036854775807) (d := n))
      have HP : Hid (RdPost (n) (.error ee) Opt.none (.error ee)) := ⟨fun cur h => (by cases h), fun e h => h⟩
      have hAl := hA.lt
      have hOl := hO.lt
      have hRl := hR.lt
      have o0 := hO.c0
      have o1 := hO.c1
      have o2 := hO.c2
      have o3 := hO.c3
      have o4 := hO.c4
      have r0 := hR.c0
      have r1 := hR.c1
      have r2 := hR.c2
      have r3 := hR.c3
      have r4 := hR.c4
      have f0 := hR.fr 0
      have f1 := hR.fr 1
      have f2 := hR.fr 2
      have f3 := hR.fr 3
      have f4 := hR.fr 4
      have HA := Lib.hid hA
      obtain ⟨AX2, nX2, cX2, x0, x1, x2, x3, x4⟩ := hA
      clear x0 x2 x3 x4 hO hR
      simp only [werr_error] at x1
      go_wp2_with fail
      refine bodyPost_ret (v := .agg #[.int .u16 0, .string (str []), .string (str []), .slice none 0 0, .slice none 0 0]) (by simp [results, Tryd.results79, go_sem, r0, r1, r2, r3, r4]) rfl ?_
      have hg5 := grow5 wr w.heap.size (.int .u16 0) (.string (str [])) (.string (str [])) (.slice none 0 0) (.slice none 0 0)
      have HF5 := (HF.out.grown hg5 (fun b (h : _ < b) e => by injection e with e; omega)).mono (S' := fun b => w.heap.size ≤ b) fun b (h : _ < b) _ => by omega
      have HA5 := HA.out.grown hg5 (fun e => by injection e with e; omega) (fun b h e => by injection e with e; have := HS.out b h; omega)
      have HG5 : w.grownBy _ (some X) := grow_seq hgr hg5 fun j e => by (injection e with e; left; omega)
      first
        | exact ⟨_, _, _, _, _, _, Opt.none, _, rfl, HF5, HA5, HG5, HP.out⟩
        | exact ⟨_, _, _, _, _, _, Opt.none, rfl, HF5, _, HA5, HG5, HP.out⟩
end Go.Proofs.Sb

/- Walk over option.reader's option: too deep. Conditions: the table of names reads as it was laid. (written by gen_optread.py) -/
namespace Go.Proofs.Sb
open Go.RowKit _root_.Sb

set_option maxHeartbeats 8000000 in
set_option maxRecDepth 100000 in
theorem readO_deep {n : Nat} {S : Nat → Prop} {w : World} {X : Nat} {deep : Int} {cur : B} (hrd : RdAt S w X (.ok cur)) (hS : ∀ b, S b → b < X) (hX : 0 < X) (hpl : Pl w) (hdn : deep = 21) :
    Calls Tryd.prog 79 #[.pointer (some ⟨X, 0, none⟩), .int .i64 deep] w fun e w' => ∃ A1 n1 c1 A2 n2 c2 o s', e = .returned (optV o A1 n1 c1 A2 n2 c2) ∧ OptR (fun b => w.heap.size ≤ b) w' 9223372036854775807 0 A1 n1 c1 A2 n2 c2 o ∧ RdAt S w' X s' ∧ w.grownBy w' (some X) ∧ RdPost 0 (.ok cur) o s' := by
  have hXlt := hrd.lt
  have HRD := Lib.hid hrd
  have HS := Lib.hid hS; clear hS
  have HPL := Lib.hid hpl; clear hpl
  have hX1 : ∀ b, S b → b ≠ X := fun b h e => by have := HS.out b h; omega
  have HX1 := Lib.hid hX1; clear hX1
  obtain ⟨AX, nX, cX, g0, g1, g2, g3, g4⟩ := hrd
  have G2 := Lib.hid g2
  have f1 := g2 1
  clear g2 g3
  go_enter Tryd.func79, Tryd.ntmps79
  subst hdn
  simp only [werr_ok] at g1
  clear g4
  have hV0 : shortV (.error 13) = 0 := rfl
  have hR0 : shortR (.error 13) = .error 13 := rfl
  have hne : (13 : Int) ≠ 0 := by decide
  have HA0 : Hid (RdAt S (w.setCell ⟨X, 1, none⟩ (.int .i64 13)) X (.error 13)) := HRD.out.fail (by decide)
  have hwz : (w.setCell ⟨X, 1, none⟩ (.int .i64 13)).heap.size = w.heap.size := by simp
  have HB0 := Lib.hid (box_new (w.setCell ⟨X, 1, none⟩ (.int .i64 13)) 62 (.int .u16 0) (.string (str [])) (.string (str [])) (.slice none 0 0) (.slice none 0 0))
  rw [hwz] at HB0
  clear hwz
  go_wp2_with fail

  refine (rshort_any (HA0.out.after (by repeat (first | exact Below.refl _ _ | assumption | refine Below.drew ?_ | refine below_drewN ?_ _ | refine Below.alloc ?_ (by first | (simp; done) | omega | (simp; omega)) _ | refine Below.setCell ?_ (by first | (simp; done) | omega | (simp; omega)) _))) HX1.out).mono ?_
  rintro e1 w1 ⟨rfl, ha1, hg1⟩
  rw [hR0] at ha1
  have hgw : w.grownBy w1 (some X) := grow_seq (grow_seq (grow_setCell w X 1 (.int .i64 13)) (grow_of_below (row := some X) (by repeat (first | exact Below.refl _ _ | assumption | refine Below.drew ?_ | refine below_drewN ?_ _ | refine Below.alloc ?_ (by first | (simp; done) | omega | (simp; omega)) _ | refine Below.setCell ?_ (by first | (simp; done) | omega | (simp; omega)) _))) fun j e => .inr e) hg1 fun j e => .inr e
  have hR1 : BoxAt w1 w.heap.size (.int .u16 0) (.string (str [])) (.string (str [])) (.slice none 0 0) (.slice none 0 0) := HB0.out.grown hg1 (fun e => by injection e with e; omega)
  have hz1 : w.heap.size < w1.heap.size := hR1.lt
  have HR1 := Lib.hid hR1; clear hR1
  have HA1 := Lib.hid ha1; clear ha1

  rw [hV0]
  clear g0 g1 f1
  go_wp2_with fail
  refine (kids_any (id := 0) (by omega) ((HPL.out.grown hgw (fun e => by injection e with e; omega)).after (by repeat (first | exact Below.refl _ _ | assumption | refine Below.drew ?_ | refine below_drewN ?_ _ | refine Below.alloc ?_ (by first | (simp; done) | omega | (simp; omega)) _ | refine Below.setCell ?_ (by first | (simp; done) | omega | (simp; omega)) _)))).mono ?_
  rintro e2 w2 ⟨rfl, hb2⟩
  have hO2 : BoxAt w2 w1.heap.size (.int .u16 0) (.string (str [])) (.string (str [])) (.slice none 0 0) (.slice none 0 0) := (box_new w1 _ _ _ _ _ _).after hb2
  have hz2 : w1.heap.size < w2.heap.size := hO2.lt
  have hb12 : Below w1.heap.size w1 w2 := Below.trans (by repeat (first | exact Below.refl _ _ | assumption | refine Below.drew ?_ | refine below_drewN ?_ _ | refine Below.alloc ?_ (by first | (simp; done) | omega | (simp; omega)) _ | refine Below.setCell ?_ (by first | (simp; done) | omega | (simp; omega)) _)) (hb2.mono (by simp))
  have hA2 : RdAt S w2 X (.error 13) := HA1.out.after hb12
  have HA2 := Lib.hid hA2
  obtain ⟨A2, n2, c2, e0, e1, e2, e3, e4⟩ := hA2
  have o0 := hO2.c0
  have HO2 := Lib.hid hO2; clear hO2
  simp only [werr_error] at e1
  clear e2 e3 e4
  rw [show knP 0 = 0 by decide]
  go_wp2_with fail
  refine (rdtext_any HA2.out HX1.out).mono ?_
  rintro e3 w3 ⟨rfl, ha3, hg3⟩
  have hO3 : BoxAt w3 w1.heap.size (.int .u16 0) (.string (str [])) (.string (str [])) (.slice none 0 0) (.slice none 0 0) := HO2.out.grown hg3 (fun e => by injection e with e; omega)
  have hz3 := hO3.lt
  have o2 := hO3.c2
  have oF := hO3.fr 2
  have HO3 := Lib.hid hO3; clear hO3
  have HA3 := Lib.hid ha3; clear ha3
  have hgw2 : w.grownBy w2 (some X) := grow_seq hgw (grow_of_below (row := some X) hb12) fun j e => .inr e
  have hgw3 : w.grownBy w3 (some X) := grow_seq hgw2 hg3 fun j e => .inr e
  have hR3 : BoxAt w3 w.heap.size (.int .u16 0) (.string (str [])) (.string (str [])) (.slice none 0 0) (.slice none 0 0) := (HR1.out.after hb12).grown hg3 (fun e => by injection e with e; omega)
  have HR3 := Lib.hid hR3; clear hR3
  rw [show textV (.error 13) = [] from rfl]
  clear o0 e0 e1
  go_wp2_with fail
  go_loopw [7] (fun i wr => i = .int .i64 0 ∧ BoxAt wr w1.heap.size (.int .u16 0) (.string (str [])) (.string (str [])) (.slice none 0 0) (.slice none 0 0) ∧ BoxAt wr w.heap.size (.int .u16 0) (.string (str [])) (.string (str [])) (.slice none 0 0) (.slice none 0 0) ∧ RdAt S wr X (.error 13) ∧ w.grownBy wr (some X)) (fun _ _ => 0)
  case atStart => exact ⟨rfl, HO3.out.set2 _, HR3.out.setOther (by omega) _, HA3.out.set (by omega) (fun b h => by have := HS.out b h; omega) _, grow_seq hgw3 (grow_setCell _ _ _ _) fun j e => by injection e with e; left; omega⟩
  case round =>
    obtain ⟨rfl, hO, hR, hA, hgr⟩ := hrel

    have HF := Lib.hid (OptR.none (S := fun b => w.heap.size < b) (w := wr) (M := 9223372036854775807) (d := 0))
    have HP : Hid (RdPost (0) (.ok cur) Opt.none (.error 13)) := ⟨fun cu e r hr => by (injection e with e; subst e; have h0 : r = .error 13 := hr.symm; subst h0; exact ⟨fun x rest h => (by cases h), fun e h => (by injection h with h; rw [h])⟩), fun e h => (by cases h)⟩
    have hAl := hA.lt
    have hOl := hO.lt
    have hRl := hR.lt
    have o0 := hO.c0
    have o1 := hO.c1
    have o2 := hO.c2
    have o3 := hO.c3
    have o4 := hO.c4
    have r0 := hR.c0
    have r1 := hR.c1
    have r2 := hR.c2
    have r3 := hR.c3
    have r4 := hR.c4
    have f0 := hR.fr 0
    have f1 := hR.fr 1
    have f2 := hR.fr 2
    have f3 := hR.fr 3
    have f4 := hR.fr 4
    have HA := Lib.hid hA
    obtain ⟨AX2, nX2, cX2, x0, x1, x2, x3, x4⟩ := hA
    clear x0 x2 x3 x4 hO hR
    simp only [werr_error] at x1
    go_wp2_with fail
    refine bodyPost_ret (v := .agg #[.int .u16 0, .string (str []), .string (str []), .slice none 0 0, .slice none 0 0]) (by simp [results, Tryd.results79, go_sem, r0, r1, r2, r3, r4]) rfl ?_
    have hg5 := grow5 wr w.heap.size (.int .u16 0) (.string (str [])) (.string (str [])) (.slice none 0 0) (.slice none 0 0)
    have HF5 := (HF.out.grown hg5 (fun b (h : _ < b) e => by injection e with e; omega)).mono (S' := fun b => w.heap.size ≤ b) fun b (h : _ < b) _ => by omega
    have HA5 := HA.out.grown hg5 (fun e => by injection e with e; omega) (fun b h e => by injection e with e; have := HS.out b h; omega)
    have HG5 : w.grownBy _ (some X) := grow_seq hgr hg5 fun j e => by (injection e with e; left; omega)
    first
      | exact ⟨_, _, _, _, _, _, Opt.none, _, rfl, HF5, HA5, HG5, HP.out⟩
      | exact ⟨_, _, _, _, _, _, Opt.none, rfl, HF5, _, HA5, HG5, HP.out⟩
end Go.Proofs.Sb

/- Walk over option.reader's option: it ends within the number. Conditions: the table of names reads as it was laid. (written by gen_optread.py) -/
namespace Go.Proofs.Sb
open Go.RowKit _root_.Sb

set_option maxHeartbeats 8000000 in
set_option maxRecDepth 100000 in
theorem readO_short {n : Nat} {S : Nat → Prop} {w : World} {X : Nat} {deep : Int} {cur : B} (hrd : RdAt S w X (.ok cur)) (hS : ∀ b, S b → b < X) (hX : 0 < X) (hpl : Pl w) (hdn : deep + n = 20) (hd1 : 1 ≤ deep) {ee : Int} (hgn : getN 2 cur = .error ee) :
    Calls Tryd.prog 79 #[.pointer (some ⟨X, 0, none⟩), .int .i64 deep] w fun e w' => ∃ A1 n1 c1 A2 n2 c2 o s', e = .returned (optV o A1 n1 c1 A2 n2 c2) ∧ OptR (fun b => w.heap.size ≤ b) w' 9223372036854775807 (n + 1) A1 n1 c1 A2 n2 c2 o ∧ RdAt S w' X s' ∧ w.grownBy w' (some X) ∧ RdPost (n + 1) (.ok cur) o s' := by
  have hXlt := hrd.lt
  have HRD := Lib.hid hrd
  have HS := Lib.hid hS; clear hS
  have HPL := Lib.hid hpl; clear hpl
  have hX1 : ∀ b, S b → b ≠ X := fun b h e => by have := HS.out b h; omega
  have HX1 := Lib.hid hX1; clear hX1
  obtain ⟨AX, nX, cX, g0, g1, g2, g3, g4⟩ := hrd
  have G2 := Lib.hid g2
  have f1 := g2 1
  clear g2 g3
  go_enter Tryd.func79, Tryd.ntmps79
  obtain rfl := getN_err hgn
  have HG := Lib.hid hgn; clear hgn
  simp only [werr_ok] at g1
  have hV0 : shortV (.ok cur) = 0 := by rw [shortV_ok HG.out]; rfl
  have hR0 : shortR (.ok cur) = .error 10 := shortR_err HG.out
  have HV0 := Lib.hid hV0; clear hV0
  have HR0 := Lib.hid hR0; clear hR0
  have hne : (10 : Int) ≠ 0 := by decide
  go_wp2_with fail

  refine (rshort_any (HRD.out.after (by repeat (first | exact Below.refl _ _ | assumption | refine Below.drew ?_ | refine below_drewN ?_ _ | refine Below.alloc ?_ (by first | (simp; done) | omega | (simp; omega)) _ | refine Below.setCell ?_ (by first | (simp; done) | omega | (simp; omega)) _))) HX1.out).mono ?_
  rintro e1 w1 ⟨rfl, ha1, hg1⟩
  rw [HR0.out] at ha1
  have hgw : w.grownBy w1 (some X) := grow_seq (grow_of_below (row := some X) (by repeat (first | exact Below.refl _ _ | assumption | refine Below.drew ?_ | refine below_drewN ?_ _ | refine Below.alloc ?_ (by first | (simp; done) | omega | (simp; omega)) _ | refine Below.setCell ?_ (by first | (simp; done) | omega | (simp; omega)) _))) hg1 fun j e => .inr e
  have hR1 : BoxAt w1 w.heap.size (.int .u16 0) (.string (str [])) (.string (str [])) (.slice none 0 0) (.slice none 0 0) := (box_new w _ _ _ _ _ _).grown hg1 (fun e => by injection e with e; omega)
  have hz1 : w.heap.size < w1.heap.size := hR1.lt
  have HR1 := Lib.hid hR1; clear hR1
  have HA1 := Lib.hid ha1; clear ha1

  rw [HV0.out]
  clear g0 g1 f1
  go_wp2_with fail
  refine (kids_any (id := 0) (by omega) ((HPL.out.grown hgw (fun e => by injection e with e; omega)).after (by repeat (first | exact Below.refl _ _ | assumption | refine Below.drew ?_ | refine below_drewN ?_ _ | refine Below.alloc ?_ (by first | (simp; done) | omega | (simp; omega)) _ | refine Below.setCell ?_ (by first | (simp; done) | omega | (simp; omega)) _)))).mono ?_
  rintro e2 w2 ⟨rfl, hb2⟩
  have hO2 : BoxAt w2 w1.heap.size (.int .u16 0) (.string (str [])) (.string (str [])) (.slice none 0 0) (.slice none 0 0) := (box_new w1 _ _ _ _ _ _).after hb2
  have hz2 : w1.heap.size < w2.heap.size := hO2.lt
  have hb12 : Below w1.heap.size w1 w2 := Below.trans (by repeat (first | exact Below.refl _ _ | assumption | refine Below.drew ?_ | refine below_drewN ?_ _ | refine Below.alloc ?_ (by first | (simp; done) | omega | (simp; omega)) _ | refine Below.setCell ?_ (by first | (simp; done) | omega | (simp; omega)) _)) (hb2.mono (by simp))
  have hA2 : RdAt S w2 X (.error 10) := HA1.out.after hb12
  have HA2 := Lib.hid hA2
  obtain ⟨A2, n2, c2, e0, e1, e2, e3, e4⟩ := hA2
  have o0 := hO2.c0
  have HO2 := Lib.hid hO2; clear hO2
  simp only [werr_error] at e1
  clear e2 e3 e4
  rw [show knP 0 = 0 by decide]
  go_wp2_with fail
  refine (rdtext_any HA2.out HX1.out).mono ?_
  rintro e3 w3 ⟨rfl, ha3, hg3⟩
  have hO3 : BoxAt w3 w1.heap.size (.int .u16 0) (.string (str [])) (.string (str [])) (.slice none 0 0) (.slice none 0 0) := HO2.out.grown hg3 (fun e => by injection e with e; omega)
  have hz3 := hO3.lt
  have o2 := hO3.c2
  have oF := hO3.fr 2
  have HO3 := Lib.hid hO3; clear hO3
  have HA3 := Lib.hid ha3; clear ha3
  have hgw2 : w.grownBy w2 (some X) := grow_seq hgw (grow_of_below (row := some X) hb12) fun j e => .inr e
  have hgw3 : w.grownBy w3 (some X) := grow_seq hgw2 hg3 fun j e => .inr e
  have hR3 : BoxAt w3 w.heap.size (.int .u16 0) (.string (str [])) (.string (str [])) (.slice none 0 0) (.slice none 0 0) := (HR1.out.after hb12).grown hg3 (fun e => by injection e with e; omega)
  have HR3 := Lib.hid hR3; clear hR3
  rw [show textV (.error 10) = [] from rfl]
  clear o0 e0 e1
  go_wp2_with fail
  go_loopw [7] (fun i wr => i = .int .i64 0 ∧ BoxAt wr w1.heap.size (.int .u16 0) (.string (str [])) (.string (str [])) (.slice none 0 0) (.slice none 0 0) ∧ BoxAt wr w.heap.size (.int .u16 0) (.string (str [])) (.string (str [])) (.slice none 0 0) (.slice none 0 0) ∧ RdAt S wr X (.error 10) ∧ w.grownBy wr (some X)) (fun _ _ => 0)
  case atStart => exact ⟨rfl, HO3.out.set2 _, HR3.out.setOther (by omega) _, HA3.out.set (by omega) (fun b h => by have := HS.out b h; omega) _, grow_seq hgw3 (grow_setCell _ _ _ _) fun j e => by injection e with e; left; omega⟩
  case round =>
    obtain ⟨rfl, hO, hR, hA, hgr⟩ := hrel

    have HF := Lib.hid (OptR.none (S := fun b => w.heap.size < b) (w := wr) (M := 9223372036854775807) (d := n + 1))
    have HP : Hid (RdPost (n + 1) (.ok cur) Opt.none (.error 10)) := ⟨fun cu e r hr => by (injection e with e; subst e; rw [getO_err HG.out] at hr; subst hr; exact ⟨fun x rest h => (by cases h), fun e h => (by injection h with h; rw [h])⟩), fun e h => (by cases h)⟩
    have hAl := hA.lt
    have hOl := hO.lt
    have hRl := hR.lt
    have o0 := hO.c0
    have o1 := hO.c1
    have o2 := hO.c2
    have o3 := hO.c3
    have o4 := hO.c4
    have r0 := hR.c0
    have r1 := hR.c1
    have r2 := hR.c2
    have r3 := hR.c3
    have r4 := hR.c4
    have f0 := hR.fr 0
    have f1 := hR.fr 1
    have f2 := hR.fr 2
    have f3 := hR.fr 3
    have f4 := hR.fr 4
    have HA := Lib.hid hA
    obtain ⟨AX2, nX2, cX2, x0, x1, x2, x3, x4⟩ := hA
    clear x0 x2 x3 x4 hO hR
    simp only [werr_error] at x1
    go_wp2_with fail
    refine bodyPost_ret (v := .agg #[.int .u16 0, .string (str []), .string (str []), .slice none 0 0, .slice none 0 0]) (by simp [results, Tryd.results79, go_sem, r0, r1, r2, r3, r4]) rfl ?_
    have hg5 := grow5 wr w.heap.size (.int .u16 0) (.string (str [])) (.string (str [])) (.slice none 0 0) (.slice none 0 0)
    have HF5 := (HF.out.grown hg5 (fun b (h : _ < b) e => by injection e with e; omega)).mono (S' := fun b => w.heap.size ≤ b) fun b (h : _ < b) _ => by omega
    have HA5 := HA.out.grown hg5 (fun e => by injection e with e; omega) (fun b h e => by injection e with e; have := HS.out b h; omega)
    have HG5 : w.grownBy _ (some X) := grow_seq hgr hg5 fun j e => by (injection e with e; left; omega)
    first
      | exact ⟨_, _, _, _, _, _, Opt.none, _, rfl, HF5, HA5, HG5, HP.out⟩
      | exact ⟨_, _, _, _, _, _, Opt.none, rfl, HF5, _, HA5, HG5, HP.out⟩
end Go.Proofs.Sb

/- Walk over option.reader's option: numbers that are no type's. Conditions: the table of names reads as it was laid. (written by gen_optread.py) -/
namespace Go.Proofs.Sb
open Go.RowKit _root_.Sb

set_option maxHeartbeats 8000000 in
set_option maxRecDepth 100000 in
theorem readO_bad {n : Nat} {S : Nat → Prop} {w : World} {X : Nat} {deep : Int} {cur rs : B} {id : Nat} (hrd : RdAt S w X (.ok cur)) (hS : ∀ b, S b → b < X) (hX : 0 < X) (hpl : Pl w) (hdn : deep + n = 20) (hd1 : 1 ≤ deep) (hgn : getN 2 cur = .ok (id, rs)) (hkn : kn id = -2) :
    Calls Tryd.prog 79 #[.pointer (some ⟨X, 0, none⟩), .int .i64 deep] w fun e w' => ∃ A1 n1 c1 A2 n2 c2 o s', e = .returned (optV o A1 n1 c1 A2 n2 c2) ∧ OptR (fun b => w.heap.size ≤ b) w' 9223372036854775807 (n + 1) A1 n1 c1 A2 n2 c2 o ∧ RdAt S w' X s' ∧ w.grownBy w' (some X) ∧ RdPost (n + 1) (.ok cur) o s' := by
  have hXlt := hrd.lt
  have HRD := Lib.hid hrd
  have HS := Lib.hid hS; clear hS
  have HPL := Lib.hid hpl; clear hpl
  have hX1 : ∀ b, S b → b ≠ X := fun b h e => by have := HS.out b h; omega
  have HX1 := Lib.hid hX1; clear hX1
  obtain ⟨AX, nX, cX, g0, g1, g2, g3, g4⟩ := hrd
  have G2 := Lib.hid g2
  have f1 := g2 1
  clear g2 g3
  go_enter Tryd.func79, Tryd.ntmps79
  have hid : id < 65536 := (getN_ok hgn).2.2.2
  have HG := Lib.hid hgn; clear hgn
  simp only [werr_ok] at g1
  clear g4
  have hi48 : ¬ id = 48 := fun e => by rw [e, kn_48] at hkn; omega
  have hi49 : ¬ id = 49 := fun e => by rw [e, kn_49] at hkn; omega
  have hi0 : ¬ id = 0 := fun e => by rw [e] at hkn; revert hkn; decide
  have HKN := Lib.hid hkn; clear hkn
  go_wp2_with fail

  refine (rshort_any (HRD.out.after (by repeat (first | exact Below.refl _ _ | assumption | refine Below.drew ?_ | refine below_drewN ?_ _ | refine Below.alloc ?_ (by first | (simp; done) | omega | (simp; omega)) _ | refine Below.setCell ?_ (by first | (simp; done) | omega | (simp; omega)) _))) HX1.out).mono ?_
  rintro e1 w1 ⟨rfl, ha1, hg1⟩
  rw [shortR_ok HG.out] at ha1
  rw [shortV_ok HG.out]
  simp only [rval_ok] at ha1 ⊢
  have hgw : w.grownBy w1 (some X) := grow_seq (grow_of_below (row := some X) (by repeat (first | exact Below.refl _ _ | assumption | refine Below.drew ?_ | refine below_drewN ?_ _ | refine Below.alloc ?_ (by first | (simp; done) | omega | (simp; omega)) _ | refine Below.setCell ?_ (by first | (simp; done) | omega | (simp; omega)) _))) hg1 fun j e => .inr e
  have hR1 : BoxAt w1 w.heap.size (.int .u16 0) (.string (str [])) (.string (str [])) (.slice none 0 0) (.slice none 0 0) := (box_new w _ _ _ _ _ _).grown hg1 (fun e => by injection e with e; omega)
  have hz1 : w.heap.size < w1.heap.size := hR1.lt
  have HR1 := Lib.hid hR1; clear hR1
  have HA1 := Lib.hid ha1; clear ha1
  clear g0 g1 f1
  go_wp2_with fail
  refine (kids_any (id := id) hid ((HPL.out.grown hgw (fun e => by injection e with e; omega)).after (by repeat (first | exact Below.refl _ _ | assumption | refine Below.drew ?_ | refine below_drewN ?_ _ | refine Below.alloc ?_ (by first | (simp; done) | omega | (simp; omega)) _ | refine Below.setCell ?_ (by first | (simp; done) | omega | (simp; omega)) _)))).mono ?_
  rintro e2 w2 ⟨rfl, hb2⟩
  have hO2 : BoxAt w2 w1.heap.size (.int .u16 (id : Nat)) (.string (str [])) (.string (str [])) (.slice none 0 0) (.slice none 0 0) := (box_new w1 _ _ _ _ _ _).after hb2
  have hz2 : w1.heap.size < w2.heap.size := hO2.lt
  have hb12 : Below w1.heap.size w1 w2 := Below.trans (by repeat (first | exact Below.refl _ _ | assumption | refine Below.drew ?_ | refine below_drewN ?_ _ | refine Below.alloc ?_ (by first | (simp; done) | omega | (simp; omega)) _ | refine Below.setCell ?_ (by first | (simp; done) | omega | (simp; omega)) _)) (hb2.mono (by simp))
  have hA2 : RdAt S w2 X (.ok rs) := HA1.out.after hb12
  have HA2 := Lib.hid hA2
  have hR2 : BoxAt w2 w.heap.size (.int .u16 0) (.string (str [])) (.string (str [])) (.slice none 0 0) (.slice none 0 0) := HR1.out.after hb12
  have HR2 := Lib.hid hR2; clear hR2
  have hgw2 : w.grownBy w2 (some X) := grow_seq hgw (grow_of_below (row := some X) hb12) fun j e => .inr e
  obtain ⟨A2, n2, c2, e0, e1, e2, e3, e4⟩ := hA2
  have o0 := hO2.c0
  have HO2 := Lib.hid hO2; clear hO2
  simp only [werr_ok] at e1
  have e2f := e2 1
  clear e2 e3 e4
  have hkr := kn_range (id)

  clear hkr
  have hkp : knP id = 3 := by unfold knP; rw [if_pos HKN.out]
  rw [hkp]
  clear hkp
  have hSPL : ([] : B).length ≤ 9223372036854775807 := Nat.zero_le _
  have hNML : ([] : B).length ≤ 9223372036854775807 := Nat.zero_le _

  go_wp2_with fail

  have hGETO : getO (n + 1) cur = finO n id (3) ([], []) (.error 11) := by rw [getO_bad HG.out HKN.out]; rfl
  have HGETO := Lib.hid hGETO; clear hGETO
  go_loopw [7] (fun i wr => ∃ (k : Nat), ∃ A1 m1 d1 A2 m2 d2 l st, k ≤ 3 ∧ i = .int .i64 (k : Nat) ∧ l.length = k ∧ BoxAt wr w1.heap.size (.int .u16 (id : Nat)) (.string (str [])) (.string (str [])) (.slice A1 m1 d1) (.slice A2 m2 d2) ∧ BoxAt wr w.heap.size (.int .u16 0) (.string (str [])) (.string (str [])) (.slice none 0 0) (.slice none 0 0) ∧ RdAt S wr X st ∧ OwnA 9 1 strP (w1.heap.size + 1) wr A1 m1 d1 (nmsO id l) ∧ OwnA 62 5 (optD (Sel w1.heap.size A1 A2) wr 9223372036854775807 (n + 1)) (w1.heap.size + 1) wr A2 m2 d2 (l.map (·.2)) ∧ Hid (∀ b, A1.map (·.block) = some b → A2.map (·.block) ≠ some b) ∧ w.grownBy wr (some X) ∧ Hid (Prg n id (3) (.error 11) k l st)) (fun i _ => 3 - (intOf i).toNat)
  case atStart => exact ⟨0, none, 0, 0, none, 0, 0, [], _, by omega, rfl, rfl, HO2.out.setOther (by omega) _, HR2.out.setOther (by omega) _, HA2.out.fail (by decide), (by (unfold nmsO; split <;> exact OwnA.nil)), OwnA.nil, (fun b h => by cases h), grow_seq hgw2 (grow_setCell _ _ _ _) fun j e => .inr e, Prg.zero _ _ _ _⟩
  case round =>
    obtain ⟨k, A1, m1, d1, A2, m2, d2, l, st, hk, rfl, hll, hO, hR, hA, hN, hK, HNE, hgr, HPRG⟩ := hrel
    have HLL := Lib.hid hll; clear hll
    have hzr := hgr.size
    have hNb : ∀ b, A1.map (·.block) = some b → w1.heap.size < b ∧ b < wr.heap.size := fun b e => by have := hN.block b e; omega
    have HNB := Lib.hid hNb; clear hNb
    have hKb : ∀ b, A2.map (·.block) = some b → w1.heap.size < b ∧ b < wr.heap.size := fun b e => by have := hK.block b e; omega
    have HKB := Lib.hid hKb; clear hKb
    by_cases hlt : k < 3
    · cases st with
      | ok rs2 =>
        obtain ⟨c0, hc, _⟩ := HPRG.out.1 _ rfl
        cases hc
      | error ee =>
        have hf := HPRG.out.fin (hd := ([], [])) (.inr ⟨_, rfl⟩) _ HGETO.out.symm
        have HP : Hid (RdPost (n + 1) (.ok cur) (mkO id ([], []) l) _) := ⟨fun cu e r hr => by injection e with e; subst e; subst hr; exact hf, fun e h => by cases h⟩
        clear hf
        have HF : Hid (OptR (fun b => w.heap.size < b) wr 9223372036854775807 (n + 1) A1 m1 d1 A2 m2 d2 (mkO id ([], []) l)) := ⟨hid, hSPL, hNML, (hN.arr (by decide)).mono fun b h _ => by omega, ((hK.arr (by decide)).mono fun b h _ => by omega).imp fun _ _ _ h => h.mono fun b h _ => by (have := h.1; omega)⟩
        clear hN hK

        have hAl := hA.lt
        have hOl := hO.lt
        have hRl := hR.lt
        have o0 := hO.c0
        have o1 := hO.c1
        have o2 := hO.c2
        have o3 := hO.c3
        have o4 := hO.c4
        have HA := Lib.hid hA
        obtain ⟨AX2, nX2, cX2, x0, x1, x2, x3, x4⟩ := hA
        simp only [werr_error] at x1
        have hne : ee ≠ 0 := x4 ee rfl
        clear x0 x2 x3 x4

        have r0 := hR.c0
        have r1 := hR.c1
        have r2 := hR.c2
        have r3 := hR.c3
        have r4 := hR.c4
        have f0 := hR.fr 0
        have f1 := hR.fr 1
        have f2 := hR.fr 2
        have f3 := hR.fr 3
        have f4 := hR.fr 4
        clear hO hR
        go_wp2_with fail
        refine bodyPost_ret (v := .agg #[.int .u16 (id : Nat), .string (str []), .string (str []), .slice A1 m1 d1, .slice A2 m2 d2]) (by simp [results, Tryd.results79, go_sem, r0, r1, r2, r3, r4]) rfl ?_
        have hg5 := grow5 wr w.heap.size (.int .u16 (id : Nat)) (.string (str [])) (.string (str [])) (.slice A1 m1 d1) (.slice A2 m2 d2)
        have HF5 := (HF.out.grown hg5 (fun b (h : _ < b) e => by injection e with e; omega)).mono (S' := fun b => w.heap.size ≤ b) fun b (h : _ < b) _ => by omega
        have HA5 := HA.out.grown hg5 (fun e => by injection e with e; omega) (fun b h e => by injection e with e; have := HS.out b h; omega)
        have HG5 : w.grownBy _ (some X) := grow_seq hgr hg5 fun j e => by (injection e with e; left; omega)
        first
          | exact ⟨_, _, _, _, _, _, (mkO id ([], []) l), _, rfl, HF5, HA5, HG5, HP.out⟩
          | exact ⟨_, _, _, _, _, _, (mkO id ([], []) l), rfl, HF5, _, HA5, HG5, HP.out⟩
    · obtain hkm : k = 3 := by omega
      have HKM := Lib.hid hkm; clear hkm
      have hf := HPRG.out.fin (hd := ([], [])) (.inl HKM.out) _ HGETO.out.symm
      have HP : Hid (RdPost (n + 1) (.ok cur) (mkO id ([], []) l) _) := ⟨fun cu e r hr => by injection e with e; subst e; subst hr; exact hf, fun e h => by cases h⟩
      clear hf
      have HF : Hid (OptR (fun b => w.heap.size < b) wr 9223372036854775807 (n + 1) A1 m1 d1 A2 m2 d2 (mkO id ([], []) l)) := ⟨hid, hSPL, hNML, (hN.arr (by decide)).mono fun b h _ => by omega, ((hK.arr (by decide)).mono fun b h _ => by omega).imp fun _ _ _ h => h.mono fun b h _ => by (have := h.1; omega)⟩
      clear hN hK

      have hAl := hA.lt
      have hOl := hO.lt
      have hRl := hR.lt
      have o0 := hO.c0
      have o1 := hO.c1
      have o2 := hO.c2
      have o3 := hO.c3
      have o4 := hO.c4
      have HA := Lib.hid hA
      obtain ⟨AX2, nX2, cX2, x0, x1, x2, x3, x4⟩ := hA
      skip
      clear x0 x2 x3 x4

      have r0 := hR.c0
      have r1 := hR.c1
      have r2 := hR.c2
      have r3 := hR.c3
      have r4 := hR.c4
      have f0 := hR.fr 0
      have f1 := hR.fr 1
      have f2 := hR.fr 2
      have f3 := hR.fr 3
      have f4 := hR.fr 4
      clear hO hR
      go_wp2_with fail
      refine bodyPost_ret (v := .agg #[.int .u16 (id : Nat), .string (str []), .string (str []), .slice A1 m1 d1, .slice A2 m2 d2]) (by simp [results, Tryd.results79, go_sem, r0, r1, r2, r3, r4]) rfl ?_
      have hg5 := grow5 wr w.heap.size (.int .u16 (id : Nat)) (.string (str [])) (.string (str [])) (.slice A1 m1 d1) (.slice A2 m2 d2)
      have HF5 := (HF.out.grown hg5 (fun b (h : _ < b) e => by injection e with e; omega)).mono (S' := fun b => w.heap.size ≤ b) fun b (h : _ < b) _ => by omega
      have HA5 := HA.out.grown hg5 (fun e => by injection e with e; omega) (fun b h e => by injection e with e; have := HS.out b h; omega)
      have HG5 : w.grownBy _ (some X) := grow_seq hgr hg5 fun j e => by (injection e with e; left; omega)
      first
        | exact ⟨_, _, _, _, _, _, (mkO id ([], []) l), _, rfl, HF5, HA5, HG5, HP.out⟩
        | exact ⟨_, _, _, _, _, _, (mkO id ([], []) l), rfl, HF5, _, HA5, HG5, HP.out⟩
end Go.Proofs.Sb

/- Walk over option.reader's option: types that have a text. Conditions: the table of names reads as it was laid. (written by gen_optread.py) -/
namespace Go.Proofs.Sb
open Go.RowKit _root_.Sb

set_option maxHeartbeats 8000000 in
set_option maxRecDepth 100000 in
theorem readO_0 {n : Nat} {S : Nat → Prop} {w : World} {X : Nat} {deep : Int} {cur rs : B} (hrd : RdAt S w X (.ok cur)) (hS : ∀ b, S b → b < X) (hX : 0 < X) (hpl : Pl w) (hdn : deep + n = 20) (hd1 : 1 ≤ deep) (hgn : getN 2 cur = .ok (0, rs)) :
    Calls Tryd.prog 79 #[.pointer (some ⟨X, 0, none⟩), .int .i64 deep] w fun e w' => ∃ A1 n1 c1 A2 n2 c2 o s', e = .returned (optV o A1 n1 c1 A2 n2 c2) ∧ OptR (fun b => w.heap.size ≤ b) w' 9223372036854775807 (n + 1) A1 n1 c1 A2 n2 c2 o ∧ RdAt S w' X s' ∧ w.grownBy w' (some X) ∧ RdPost (n + 1) (.ok cur) o s' := by
  have hXlt := hrd.lt
  have HRD := Lib.hid hrd
  have HS := Lib.hid hS; clear hS
  have HPL := Lib.hid hpl; clear hpl
  have hX1 : ∀ b, S b → b ≠ X := fun b h e => by have := HS.out b h; omega
  have HX1 := Lib.hid hX1; clear hX1
  obtain ⟨AX, nX, cX, g0, g1, g2, g3, g4⟩ := hrd
  have G2 := Lib.hid g2
  have f1 := g2 1
  clear g2 g3
  go_enter Tryd.func79, Tryd.ntmps79
  have hid : 0 < 65536 := by decide
  have HG := Lib.hid hgn; clear hgn
  simp only [werr_ok] at g1
  clear g4
  go_wp2_with fail

  refine (rshort_any (HRD.out.after (by repeat (first | exact Below.refl _ _ | assumption | refine Below.drew ?_ | refine below_drewN ?_ _ | refine Below.alloc ?_ (by first | (simp; done) | omega | (simp; omega)) _ | refine Below.setCell ?_ (by first | (simp; done) | omega | (simp; omega)) _))) HX1.out).mono ?_
  rintro e1 w1 ⟨rfl, ha1, hg1⟩
  rw [shortR_ok HG.out] at ha1
  rw [shortV_ok HG.out]
  simp only [rval_ok] at ha1 ⊢
  have hgw : w.grownBy w1 (some X) := grow_seq (grow_of_below (row := some X) (by repeat (first | exact Below.refl _ _ | assumption | refine Below.drew ?_ | refine below_drewN ?_ _ | refine Below.alloc ?_ (by first | (simp; done) | omega | (simp; omega)) _ | refine Below.setCell ?_ (by first | (simp; done) | omega | (simp; omega)) _))) hg1 fun j e => .inr e
  have hR1 : BoxAt w1 w.heap.size (.int .u16 0) (.string (str [])) (.string (str [])) (.slice none 0 0) (.slice none 0 0) := (box_new w _ _ _ _ _ _).grown hg1 (fun e => by injection e with e; omega)
  have hz1 : w.heap.size < w1.heap.size := hR1.lt
  have HR1 := Lib.hid hR1; clear hR1
  have HA1 := Lib.hid ha1; clear ha1
  clear g0 g1 f1
  go_wp2_with fail
  refine (kids_any (id := 0) hid ((HPL.out.grown hgw (fun e => by injection e with e; omega)).after (by repeat (first | exact Below.refl _ _ | assumption | refine Below.drew ?_ | refine below_drewN ?_ _ | refine Below.alloc ?_ (by first | (simp; done) | omega | (simp; omega)) _ | refine Below.setCell ?_ (by first | (simp; done) | omega | (simp; omega)) _)))).mono ?_
  rintro e2 w2 ⟨rfl, hb2⟩
  have hO2 : BoxAt w2 w1.heap.size (.int .u16 (0 : Nat)) (.string (str [])) (.string (str [])) (.slice none 0 0) (.slice none 0 0) := (box_new w1 _ _ _ _ _ _).after hb2
  have hz2 : w1.heap.size < w2.heap.size := hO2.lt
  have hb12 : Below w1.heap.size w1 w2 := Below.trans (by repeat (first | exact Below.refl _ _ | assumption | refine Below.drew ?_ | refine below_drewN ?_ _ | refine Below.alloc ?_ (by first | (simp; done) | omega | (simp; omega)) _ | refine Below.setCell ?_ (by first | (simp; done) | omega | (simp; omega)) _)) (hb2.mono (by simp))
  have hA2 : RdAt S w2 X (.ok rs) := HA1.out.after hb12
  have HA2 := Lib.hid hA2
  have hR2 : BoxAt w2 w.heap.size (.int .u16 0) (.string (str [])) (.string (str [])) (.slice none 0 0) (.slice none 0 0) := HR1.out.after hb12
  have HR2 := Lib.hid hR2; clear hR2
  have hgw2 : w.grownBy w2 (some X) := grow_seq hgw (grow_of_below (row := some X) hb12) fun j e => .inr e
  obtain ⟨A2, n2, c2, e0, e1, e2, e3, e4⟩ := hA2
  have o0 := hO2.c0
  have HO2 := Lib.hid hO2; clear hO2
  simp only [werr_ok] at e1
  have e2f := e2 1
  clear e2 e3 e4
  have hkr := kn_range (0)

  clear hkr
  rw [show knP 0 = 0 by decide]
  have hSPL : ([] : B).length ≤ 9223372036854775807 := Nat.zero_le _
  have hNML : (textV (.ok rs)).length ≤ 9223372036854775807 := by have := textV_len (.ok rs); omega
  go_wp2_with fail
  refine (rdtext_any HA2.out HX1.out).mono ?_
  rintro e3 w3 ⟨rfl, ha3, hg3⟩
  have hO3 := HO2.out.grown hg3 (fun e => by injection e with e; omega)
  have hz3 := hO3.lt
  have o2 := hO3.c2
  have oF := hO3.fr 2
  have HO3 := Lib.hid hO3; clear hO3
  have HA3 := Lib.hid ha3; clear ha3
  have hgw3 : w.grownBy w3 (some X) := grow_seq hgw2 hg3 fun j e => .inr e
  have hR3 := HR2.out.grown hg3 (fun e => by injection e with e; omega)
  have HR3 := Lib.hid hR3; clear hR3
  clear o0 e0 e1 e2f
  generalize htv : textV (.ok rs) = tv at *
  have HTV := Lib.hid htv; clear htv
  go_wp2_with fail

  have hGETO : getO (n + 1) cur = finO n 0 (0) ([], tv) (textR (.ok rs)) := by rw [← HTV.out]; exact getO_0 HG.out
  have HGETO := Lib.hid hGETO; clear hGETO
  go_loopw [7] (fun i wr => ∃ (k : Nat), ∃ A1 m1 d1 A2 m2 d2 l st, k ≤ 0 ∧ i = .int .i64 (k : Nat) ∧ l.length = k ∧ BoxAt wr w1.heap.size (.int .u16 (0 : Nat)) (.string (str [])) (.string (str tv)) (.slice A1 m1 d1) (.slice A2 m2 d2) ∧ BoxAt wr w.heap.size (.int .u16 0) (.string (str [])) (.string (str [])) (.slice none 0 0) (.slice none 0 0) ∧ RdAt S wr X st ∧ OwnA 9 1 strP (w1.heap.size + 1) wr A1 m1 d1 (nmsO 0 l) ∧ OwnA 62 5 (optD (Sel w1.heap.size A1 A2) wr 9223372036854775807 (n + 1)) (w1.heap.size + 1) wr A2 m2 d2 (l.map (·.2)) ∧ Hid (∀ b, A1.map (·.block) = some b → A2.map (·.block) ≠ some b) ∧ w.grownBy wr (some X) ∧ Hid (Prg n 0 (0) (textR (.ok rs)) k l st)) (fun i _ => 0 - (intOf i).toNat)
  case atStart => exact ⟨0, none, 0, 0, none, 0, 0, [], _, by omega, rfl, rfl, HO3.out.set2 _, HR3.out.setOther (by omega) _, HA3.out.set (by omega) (fun b h => by have := HS.out b h; omega) _, (by (unfold nmsO; split <;> exact OwnA.nil)), OwnA.nil, (fun b h => by cases h), grow_seq hgw3 (grow_setCell _ _ _ _) fun j e => by (injection e with e; left; omega), Prg.zero _ _ _ _⟩
  case round =>
    obtain ⟨k, A1, m1, d1, A2, m2, d2, l, st, hk, rfl, hll, hO, hR, hA, hN, hK, HNE, hgr, HPRG⟩ := hrel
    have HLL := Lib.hid hll; clear hll
    have hzr := hgr.size
    have hNb : ∀ b, A1.map (·.block) = some b → w1.heap.size < b ∧ b < wr.heap.size := fun b e => by have := hN.block b e; omega
    have HNB := Lib.hid hNb; clear hNb
    have hKb : ∀ b, A2.map (·.block) = some b → w1.heap.size < b ∧ b < wr.heap.size := fun b e => by have := hK.block b e; omega
    have HKB := Lib.hid hKb; clear hKb
    by_cases hlt : k < 0
    · exact absurd hlt (by omega)
    · obtain hkm : k = 0 := by omega
      have HKM := Lib.hid hkm; clear hkm
      have hf := HPRG.out.fin (hd := ([], tv)) (.inl HKM.out) _ HGETO.out.symm
      have HP : Hid (RdPost (n + 1) (.ok cur) (mkO 0 ([], tv) l) _) := ⟨fun cu e r hr => by injection e with e; subst e; subst hr; exact hf, fun e h => by cases h⟩
      clear hf
      have HF : Hid (OptR (fun b => w.heap.size < b) wr 9223372036854775807 (n + 1) A1 m1 d1 A2 m2 d2 (mkO 0 ([], tv) l)) := ⟨hid, hSPL, hNML, (hN.arr (by decide)).mono fun b h _ => by omega, ((hK.arr (by decide)).mono fun b h _ => by omega).imp fun _ _ _ h => h.mono fun b h _ => by (have := h.1; omega)⟩
      clear hN hK

      have hAl := hA.lt
      have hOl := hO.lt
      have hRl := hR.lt
      have o0 := hO.c0
      have o1 := hO.c1
      have o2 := hO.c2
      have o3 := hO.c3
      have o4 := hO.c4
      have HA := Lib.hid hA
      obtain ⟨AX2, nX2, cX2, x0, x1, x2, x3, x4⟩ := hA
      skip
      clear x0 x2 x3 x4

      have r0 := hR.c0
      have r1 := hR.c1
      have r2 := hR.c2
      have r3 := hR.c3
      have r4 := hR.c4
      have f0 := hR.fr 0
      have f1 := hR.fr 1
      have f2 := hR.fr 2
      have f3 := hR.fr 3
      have f4 := hR.fr 4
      clear hO hR
      go_wp2_with fail
      refine bodyPost_ret (v := .agg #[.int .u16 (0 : Nat), .string (str []), .string (str tv), .slice A1 m1 d1, .slice A2 m2 d2]) (by simp [results, Tryd.results79, go_sem, r0, r1, r2, r3, r4]) rfl ?_
      have hg5 := grow5 wr w.heap.size (.int .u16 (0 : Nat)) (.string (str [])) (.string (str tv)) (.slice A1 m1 d1) (.slice A2 m2 d2)
      have HF5 := (HF.out.grown hg5 (fun b (h : _ < b) e => by injection e with e; omega)).mono (S' := fun b => w.heap.size ≤ b) fun b (h : _ < b) _ => by omega
      have HA5 := HA.out.grown hg5 (fun e => by injection e with e; omega) (fun b h e => by injection e with e; have := HS.out b h; omega)
      have HG5 : w.grownBy _ (some X) := grow_seq hgr hg5 fun j e => by (injection e with e; left; omega)
      first
        | exact ⟨_, _, _, _, _, _, (mkO 0 ([], tv) l), _, rfl, HF5, HA5, HG5, HP.out⟩
        | exact ⟨_, _, _, _, _, _, (mkO 0 ([], tv) l), rfl, HF5, _, HA5, HG5, HP.out⟩
end Go.Proofs.Sb

/- Walk over option.reader's option: tuples. Conditions: the table of names reads as it was laid. (written by gen_optread.py) -/
namespace Go.Proofs.Sb
open Go.RowKit _root_.Sb

set_option maxHeartbeats 8000000 in
set_option maxRecDepth 100000 in
theorem readO_49 {n : Nat} {S : Nat → Prop} {w : World} {X : Nat} {deep : Int} (ih : ReadO n) {cur rs : B} (hrd : RdAt S w X (.ok cur)) (hS : ∀ b, S b → b < X) (hX : 0 < X) (hpl : Pl w) (hdn : deep + n = 20) (hd1 : 1 ≤ deep) (hgn : getN 2 cur = .ok (49, rs)) :
    Calls Tryd.prog 79 #[.pointer (some ⟨X, 0, none⟩), .int .i64 deep] w fun e w' => ∃ A1 n1 c1 A2 n2 c2 o s', e = .returned (optV o A1 n1 c1 A2 n2 c2) ∧ OptR (fun b => w.heap.size ≤ b) w' 9223372036854775807 (n + 1) A1 n1 c1 A2 n2 c2 o ∧ RdAt S w' X s' ∧ w.grownBy w' (some X) ∧ RdPost (n + 1) (.ok cur) o s' := by
  have hXlt := hrd.lt
  have HRD := Lib.hid hrd
  have HS := Lib.hid hS; clear hS
  have HPL := Lib.hid hpl; clear hpl
  have hX1 : ∀ b, S b → b ≠ X := fun b h e => by have := HS.out b h; omega
  have HX1 := Lib.hid hX1; clear hX1
  obtain ⟨AX, nX, cX, g0, g1, g2, g3, g4⟩ := hrd
  have G2 := Lib.hid g2
  have f1 := g2 1
  clear g2 g3
  go_enter Tryd.func79, Tryd.ntmps79
  have hid : 49 < 65536 := by decide
  have hi48 : ¬ 49 = 48 := by decide
  have HG := Lib.hid hgn; clear hgn
  simp only [werr_ok] at g1
  clear g4
  go_wp2_with fail

  refine (rshort_any (HRD.out.after (by repeat (first | exact Below.refl _ _ | assumption | refine Below.drew ?_ | refine below_drewN ?_ _ | refine Below.alloc ?_ (by first | (simp; done) | omega | (simp; omega)) _ | refine Below.setCell ?_ (by first | (simp; done) | omega | (simp; omega)) _))) HX1.out).mono ?_
  rintro e1 w1 ⟨rfl, ha1, hg1⟩
  rw [shortR_ok HG.out] at ha1
  rw [shortV_ok HG.out]
  simp only [rval_ok] at ha1 ⊢
  have hgw : w.grownBy w1 (some X) := grow_seq (grow_of_below (row := some X) (by repeat (first | exact Below.refl _ _ | assumption | refine Below.drew ?_ | refine below_drewN ?_ _ | refine Below.alloc ?_ (by first | (simp; done) | omega | (simp; omega)) _ | refine Below.setCell ?_ (by first | (simp; done) | omega | (simp; omega)) _))) hg1 fun j e => .inr e
  have hR1 : BoxAt w1 w.heap.size (.int .u16 0) (.string (str [])) (.string (str [])) (.slice none 0 0) (.slice none 0 0) := (box_new w _ _ _ _ _ _).grown hg1 (fun e => by injection e with e; omega)
  have hz1 : w.heap.size < w1.heap.size := hR1.lt
  have HR1 := Lib.hid hR1; clear hR1
  have HA1 := Lib.hid ha1; clear ha1
  clear g0 g1 f1
  go_wp2_with fail
  refine (kids_any (id := 49) hid ((HPL.out.grown hgw (fun e => by injection e with e; omega)).after (by repeat (first | exact Below.refl _ _ | assumption | refine Below.drew ?_ | refine below_drewN ?_ _ | refine Below.alloc ?_ (by first | (simp; done) | omega | (simp; omega)) _ | refine Below.setCell ?_ (by first | (simp; done) | omega | (simp; omega)) _)))).mono ?_
  rintro e2 w2 ⟨rfl, hb2⟩
  have hO2 : BoxAt w2 w1.heap.size (.int .u16 (49 : Nat)) (.string (str [])) (.string (str [])) (.slice none 0 0) (.slice none 0 0) := (box_new w1 _ _ _ _ _ _).after hb2
  have hz2 : w1.heap.size < w2.heap.size := hO2.lt
  have hb12 : Below w1.heap.size w1 w2 := Below.trans (by repeat (first | exact Below.refl _ _ | assumption | refine Below.drew ?_ | refine below_drewN ?_ _ | refine Below.alloc ?_ (by first | (simp; done) | omega | (simp; omega)) _ | refine Below.setCell ?_ (by first | (simp; done) | omega | (simp; omega)) _)) (hb2.mono (by simp))
  have hA2 : RdAt S w2 X (.ok rs) := HA1.out.after hb12
  have HA2 := Lib.hid hA2
  have hR2 : BoxAt w2 w.heap.size (.int .u16 0) (.string (str [])) (.string (str [])) (.slice none 0 0) (.slice none 0 0) := HR1.out.after hb12
  have HR2 := Lib.hid hR2; clear hR2
  have hgw2 : w.grownBy w2 (some X) := grow_seq hgw (grow_of_below (row := some X) hb12) fun j e => .inr e
  obtain ⟨A2, n2, c2, e0, e1, e2, e3, e4⟩ := hA2
  have o0 := hO2.c0
  have HO2 := Lib.hid hO2; clear hO2
  simp only [werr_ok] at e1
  have e2f := e2 1
  clear e2 e3 e4
  have hkr := kn_range (49)

  clear hkr
  rw [show knP 49 = -1 by decide]
  have hSPL : ([] : B).length ≤ 9223372036854775807 := Nat.zero_le _
  have hNML : ([] : B).length ≤ 9223372036854775807 := Nat.zero_le _

  go_wp2_with fail
  refine (rshort_any HA2.out HX1.out).mono ?_
  rintro e3 w3 ⟨rfl, ha3, hg3⟩
  have hO3 := HO2.out.grown hg3 (fun e => by injection e with e; omega)
  have hz3 := hO3.lt
  have HO3 := Lib.hid hO3; clear hO3
  have HA3 := Lib.hid ha3; clear ha3
  have hgw3 : w.grownBy w3 (some X) := grow_seq hgw2 hg3 fun j e => .inr e
  have hR3 := HR2.out.grown hg3 (fun e => by injection e with e; omega)
  have HR3 := Lib.hid hR3; clear hR3
  clear o0 e0 e1 e2f
  have hmlt := shortV_lt (.ok rs)
  generalize hmm : shortV (.ok rs) = m at *
  have HMM := Lib.hid hmm; clear hmm
  have HM : Hid (m ≤ 65535) := by (have h1 : m ≤ 65535 := by omega); exact h1
  go_wp2_with fail

  have hGETO : getO (n + 1) cur = finO n 49 (m) ([], []) (shortR (.ok rs)) := by rw [← HMM.out]; exact getO_49 HG.out
  have HGETO := Lib.hid hGETO; clear hGETO
  go_loopw [7] (fun i wr => ∃ (k : Nat), ∃ A1 m1 d1 A2 m2 d2 l st, k ≤ m ∧ i = .int .i64 (k : Nat) ∧ l.length = k ∧ BoxAt wr w1.heap.size (.int .u16 (49 : Nat)) (.string (str [])) (.string (str [])) (.slice A1 m1 d1) (.slice A2 m2 d2) ∧ BoxAt wr w.heap.size (.int .u16 0) (.string (str [])) (.string (str [])) (.slice none 0 0) (.slice none 0 0) ∧ RdAt S wr X st ∧ OwnA 9 1 strP (w1.heap.size + 1) wr A1 m1 d1 (nmsO 49 l) ∧ OwnA 62 5 (optD (Sel w1.heap.size A1 A2) wr 9223372036854775807 (n + 1)) (w1.heap.size + 1) wr A2 m2 d2 (l.map (·.2)) ∧ Hid (∀ b, A1.map (·.block) = some b → A2.map (·.block) ≠ some b) ∧ w.grownBy wr (some X) ∧ Hid (Prg n 49 (m) (shortR (.ok rs)) k l st)) (fun i _ => m - (intOf i).toNat)
  case atStart => exact ⟨0, none, 0, 0, none, 0, 0, [], _, by omega, rfl, rfl, HO3.out, HR3.out, HA3.out, (by (unfold nmsO; split <;> exact OwnA.nil)), OwnA.nil, (fun b h => by cases h), hgw3, Prg.zero _ _ _ _⟩
  case round =>
    obtain ⟨k, A1, m1, d1, A2, m2, d2, l, st, hk, rfl, hll, hO, hR, hA, hN, hK, HNE, hgr, HPRG⟩ := hrel
    have HLL := Lib.hid hll; clear hll
    have hzr := hgr.size
    have hNb : ∀ b, A1.map (·.block) = some b → w1.heap.size < b ∧ b < wr.heap.size := fun b e => by have := hN.block b e; omega
    have HNB := Lib.hid hNb; clear hNb
    have hKb : ∀ b, A2.map (·.block) = some b → w1.heap.size < b ∧ b < wr.heap.size := fun b e => by have := hK.block b e; omega
    have HKB := Lib.hid hKb; clear hKb
    by_cases hlt : k < m
    · cases st with
      | ok rs2 =>
        have hml := hK.len (by decide)
        have hmk : m2 ≤ 65536 := by have := HLL.out; rw [List.length_map] at hml; have := HM.out; omega
        clear hml

        have hAl := hA.lt
        have hOl := hO.lt
        have hRl := hR.lt
        have o0 := hO.c0
        have o1 := hO.c1
        have o2 := hO.c2
        have o3 := hO.c3
        have o4 := hO.c4
        have HA := Lib.hid hA
        obtain ⟨AX2, nX2, cX2, x0, x1, x2, x3, x4⟩ := hA
        simp only [werr_ok] at x1
        clear x0 x2 x3 x4

        have of3 := hO.fr 3
        have of4 := hO.fr 4
        have HO := Lib.hid hO; clear hO
        have HR := Lib.hid hR; clear hR
        have HN := Lib.hid hN; clear hN
        have HK := Lib.hid hK; clear hK
        go_wp2_with fail
        refine regt_start (by kernel_rfl) ?_
        (refine regt_take 0 (v := ?_) (by rfl) (by kernel_rfl) (by kernel_rfl) (by kernel_rfl) (by exact fun _ _ _ h => h) (by rfl) ?_ ?_; rotate_left; focus (intro w hSw; go_simp; try with_reducible rfl))
        simp only [Act.put, List.setIfInBounds_toArray, List.set_cons_zero, List.set_cons_succ]
        (refine regt_take 2 (v := ?_) (by rfl) (by kernel_rfl) (by kernel_rfl) (by kernel_rfl) (by exact fun _ _ _ h => h) (by rfl) ?_ ?_; rotate_left; focus (intro w hSw; go_simp; try with_reducible rfl))
        simp only [Act.put, List.setIfInBounds_toArray, List.set_cons_zero, List.set_cons_succ]
        (refine regt_take 3 (v := ?_) (by rfl) (by kernel_rfl) (by kernel_rfl) (by kernel_rfl) (by exact fun _ _ _ h => h) (by rfl) ?_ ?_; rotate_left; focus (intro w hSw; go_simp; try with_reducible rfl))
        simp only [Act.put, List.setIfInBounds_toArray, List.set_cons_zero, List.set_cons_succ]
        (refine regt_take 4 (v := ?_) (by rfl) (by kernel_rfl) (by kernel_rfl) (by kernel_rfl) (by exact fun _ _ _ h => h) (by rfl) ?_ ?_; rotate_left; focus (intro w hSw; go_simp; try with_reducible rfl))
        simp only [Act.put, List.setIfInBounds_toArray, List.set_cons_zero, List.set_cons_succ]
        refine regt_two 1 5 (by kernel_rfl) (by rfl) (by rfl) (fun K hK => ?_) (fun K hK => ?_)
        focus
          go_simp
          refine hK.out _ _ (trivial) ?_
          clear hK K
          try simp only [Act.put, List.setIfInBounds_toArray, List.set_cons_zero, List.set_cons_succ]
          refine regt_call 5 (by kernel_rfl) (by rfl) (fun K hK => ?_)
          go_simp
          go_at_call 79; have hwr : IntKind.i64.wrap (deep + 1) = deep + 1 := (wrap_small _ (by omega) (by omega)); rw [hwr]; clear hwr; refine (ih (deep := deep + 1) (HA.out.after (by repeat (first | exact Below.refl _ _ | assumption | refine Below.drew ?_ | refine below_drewN ?_ _ | refine Below.alloc ?_ (by first | (simp; done) | omega | (simp; omega)) _ | refine Below.setCell ?_ (by first | (simp; done) | omega | (simp; omega)) _))) HS.out hX ((HPL.out.grown hgr (fun e => by injection e with e; omega)).after (by repeat (first | exact Below.refl _ _ | assumption | refine Below.drew ?_ | refine below_drewN ?_ _ | refine Below.alloc ?_ (by first | (simp; done) | omega | (simp; omega)) _ | refine Below.setCell ?_ (by first | (simp; done) | omega | (simp; omega)) _))) (by omega) (by omega)).mono ?_; rintro ek wk ⟨B1, p1, q1, B2, p2, q2, ox, sx, rfl, hRx, hAx, hgx, hPx⟩; have hzk := hgx.size; simp at hzk; have hzw9 := Nat.le_refl wr.heap.size; have hlk : w1.heap.size < wk.heap.size := (by omega); have o4k : wk.cell? ⟨w1.heap.size, 4, none⟩ = some (.slice A2 m2 d2) := gcx hgx (fun e => by injection e with e; omega) (by go_simp); have f4k : wk.frozen? ⟨w1.heap.size, 4, none⟩ = false := gfroz hgx (fun e => by injection e with e; omega) (by simp; omega) (by go_simp); have HRx := Lib.hid hRx; clear hRx; have HAx := Lib.hid hAx; clear hAx; have HPx := Lib.hid hPx; clear hPx; have HKk := Lib.hid (((HK.out.after (Below.refl _ wr).drew).grown hgx (fun b e e2 => by injection e2 with e2; have := HKB.out b e; omega)).imp (P' := optD (Sel w1.heap.size A1 A2) wk 9223372036854775807 (n + 1)) fun x _ v h => (h.keep (Below.refl wr.heap.size wr).drew.size fun b _ hb => (Below.refl wr.heap.size wr).drew.block b hb).keep hgx.size fun b hs hb => hgx.block b hb (fun e => by injection e with e; have := hs.1; omega))
          refine hK.out _ _ (trivial) ?_
          clear hK K
          try simp only [Act.put, List.setIfInBounds_toArray, List.set_cons_zero, List.set_cons_succ]
          refine regt_call 6 (by kernel_rfl) (by rfl) (fun K hK => ?_)
          go_simp
          refine hK.out _ _ (trivial) ?_
          clear hK K
          try simp only [Act.put, List.setIfInBounds_toArray, List.set_cons_zero, List.set_cons_succ]
          refine regt_call 7 (by kernel_rfl) (by rfl) (fun K hK => ?_)
          refine step_appA rfl tyOpt _ _ rfl (w1.heap.size + 1) _ _ _ (l.map (·.2)) rfl (HKk.out.after (by repeat (first | exact Below.refl _ _ | assumption | refine Below.drew ?_ | refine below_drewN ?_ _ | refine Below.alloc ?_ (by first | (simp; done) | omega | (simp; omega)) _ | refine Below.setCell ?_ (by first | (simp; done) | omega | (simp; omega)) _))) _ _ _ _ [ox] rfl (arr_lit (P := optD (Sel w1.heap.size A1 A2) wk 9223372036854775807 (n + 1)) _ #[.int .u16 (ox.id : Int), .string (str ox.space), .string (str ox.name), .slice B1 p1 q1, .slice B2 p2 q2] ox rfl (HRx.out.mono (S' := Sel w1.heap.size A1 A2) fun b hb _ => ⟨by (have hb2 : _ ≤ b := hb; simp at hb2; omega), fun e => by (have hb2 : _ ≤ b := hb; have := HNB.out b e; simp at hb2; omega), fun e => by (have hb2 : _ ≤ b := hb; have := HKB.out b e; simp at hb2; omega)⟩).to (by simp)) (fun _ _ h => h.one) (fun _ _ _ h => h) (by omega) (by unfold maxLen; omega) (by simp; omega) ?_; intro A4 m4 d4 w5 hown5 hg5 hw5; have o45 : w5.cell? ⟨w1.heap.size, 4, none⟩ = some (.slice A2 m2 d2) := gcx hg5 (fun e => by have := HKB.out _ e; omega) (by go_simp); have f45 : w5.frozen? ⟨w1.heap.size, 4, none⟩ = false := gfroz hg5 (fun e => by have := HKB.out _ e.symm; omega) (by simp; omega) (by go_simp); have hz5 := hg5.size; simp at hz5; have HO5 := Lib.hid hown5; clear hown5
          refine hK.out _ _ (trivial) ?_
          clear hK K
          try simp only [Act.put, List.setIfInBounds_toArray, List.set_cons_zero, List.set_cons_succ]
          (refine regt_take 8 (v := ?_) (by rfl) (by kernel_rfl) (by kernel_rfl) (by kernel_rfl) (by exact fun _ _ _ h => h) (by rfl) ?_ ?_; rotate_left; focus (intro w hSw; go_simp; try with_reducible rfl))
          simp only [Act.put, List.setIfInBounds_toArray, List.set_cons_zero, List.set_cons_succ]
          refine regt_call 9 (by kernel_rfl) (by rfl) (fun K hK => ?_)
          go_simp
          refine hK.out _ _ (trivial) ?_
          clear hK K
          try simp only [Act.put, List.setIfInBounds_toArray, List.set_cons_zero, List.set_cons_succ]
          refine wpAnyH_done (by kernel_rfl) ?_ _
        rotate_left 1
        focus
          go_simp
          go_at_call 79; have hwr : IntKind.i64.wrap (deep + 1) = deep + 1 := (wrap_small _ (by omega) (by omega)); rw [hwr]; clear hwr; refine (ih (deep := deep + 1) (HA.out.after (by repeat (first | exact Below.refl _ _ | assumption | refine Below.drew ?_ | refine below_drewN ?_ _ | refine Below.alloc ?_ (by first | (simp; done) | omega | (simp; omega)) _ | refine Below.setCell ?_ (by first | (simp; done) | omega | (simp; omega)) _))) HS.out hX ((HPL.out.grown hgr (fun e => by injection e with e; omega)).after (by repeat (first | exact Below.refl _ _ | assumption | refine Below.drew ?_ | refine below_drewN ?_ _ | refine Below.alloc ?_ (by first | (simp; done) | omega | (simp; omega)) _ | refine Below.setCell ?_ (by first | (simp; done) | omega | (simp; omega)) _))) (by omega) (by omega)).mono ?_; rintro ek wk ⟨B1, p1, q1, B2, p2, q2, ox, sx, rfl, hRx, hAx, hgx, hPx⟩; have hzk := hgx.size; simp at hzk; have hzw9 := Nat.le_refl wr.heap.size; have hlk : w1.heap.size < wk.heap.size := (by omega); have o4k : wk.cell? ⟨w1.heap.size, 4, none⟩ = some (.slice A2 m2 d2) := gcx hgx (fun e => by injection e with e; omega) (by go_simp); have f4k : wk.frozen? ⟨w1.heap.size, 4, none⟩ = false := gfroz hgx (fun e => by injection e with e; omega) (by simp; omega) (by go_simp); have HRx := Lib.hid hRx; clear hRx; have HAx := Lib.hid hAx; clear hAx; have HPx := Lib.hid hPx; clear hPx; have HKk := Lib.hid (((HK.out.after (Below.refl _ wr).drew).grown hgx (fun b e e2 => by injection e2 with e2; have := HKB.out b e; omega)).imp (P' := optD (Sel w1.heap.size A1 A2) wk 9223372036854775807 (n + 1)) fun x _ v h => (h.keep (Below.refl wr.heap.size wr).drew.size fun b _ hb => (Below.refl wr.heap.size wr).drew.block b hb).keep hgx.size fun b hs hb => hgx.block b hb (fun e => by injection e with e; have := hs.1; omega))
          refine hK.out _ _ (trivial) ?_
          clear hK K
          try simp only [Act.put, List.setIfInBounds_toArray, List.set_cons_zero, List.set_cons_succ]
          refine regt_two 1 6 (by kernel_rfl) (by rfl) (by rfl) (fun K hK => ?_) (fun K hK => ?_)
          focus
            go_simp
            refine hK.out _ _ (trivial) ?_
            clear hK K
            try simp only [Act.put, List.setIfInBounds_toArray, List.set_cons_zero, List.set_cons_succ]
            refine regt_call 6 (by kernel_rfl) (by rfl) (fun K hK => ?_)
            go_simp
            refine hK.out _ _ (trivial) ?_
            clear hK K
            try simp only [Act.put, List.setIfInBounds_toArray, List.set_cons_zero, List.set_cons_succ]
            refine regt_call 7 (by kernel_rfl) (by rfl) (fun K hK => ?_)
            refine step_appA rfl tyOpt _ _ rfl (w1.heap.size + 1) _ _ _ (l.map (·.2)) rfl (HKk.out.after (by repeat (first | exact Below.refl _ _ | assumption | refine Below.drew ?_ | refine below_drewN ?_ _ | refine Below.alloc ?_ (by first | (simp; done) | omega | (simp; omega)) _ | refine Below.setCell ?_ (by first | (simp; done) | omega | (simp; omega)) _))) _ _ _ _ [ox] rfl (arr_lit (P := optD (Sel w1.heap.size A1 A2) wk 9223372036854775807 (n + 1)) _ #[.int .u16 (ox.id : Int), .string (str ox.space), .string (str ox.name), .slice B1 p1 q1, .slice B2 p2 q2] ox rfl (HRx.out.mono (S' := Sel w1.heap.size A1 A2) fun b hb _ => ⟨by (have hb2 : _ ≤ b := hb; simp at hb2; omega), fun e => by (have hb2 : _ ≤ b := hb; have := HNB.out b e; simp at hb2; omega), fun e => by (have hb2 : _ ≤ b := hb; have := HKB.out b e; simp at hb2; omega)⟩).to (by simp)) (fun _ _ h => h.one) (fun _ _ _ h => h) (by omega) (by unfold maxLen; omega) (by simp; omega) ?_; intro A4 m4 d4 w5 hown5 hg5 hw5; have o45 : w5.cell? ⟨w1.heap.size, 4, none⟩ = some (.slice A2 m2 d2) := gcx hg5 (fun e => by have := HKB.out _ e; omega) (by go_simp); have f45 : w5.frozen? ⟨w1.heap.size, 4, none⟩ = false := gfroz hg5 (fun e => by have := HKB.out _ e.symm; omega) (by simp; omega) (by go_simp); have hz5 := hg5.size; simp at hz5; have HO5 := Lib.hid hown5; clear hown5
            refine hK.out _ _ (trivial) ?_
            clear hK K
            try simp only [Act.put, List.setIfInBounds_toArray, List.set_cons_zero, List.set_cons_succ]
            (refine regt_take 8 (v := ?_) (by rfl) (by kernel_rfl) (by kernel_rfl) (by kernel_rfl) (by exact fun _ _ _ h => h) (by rfl) ?_ ?_; rotate_left; focus (intro w hSw; go_simp; try with_reducible rfl))
            simp only [Act.put, List.setIfInBounds_toArray, List.set_cons_zero, List.set_cons_succ]
            refine regt_call 9 (by kernel_rfl) (by rfl) (fun K hK => ?_)
            go_simp
            refine hK.out _ _ (trivial) ?_
            clear hK K
            try simp only [Act.put, List.setIfInBounds_toArray, List.set_cons_zero, List.set_cons_succ]
            refine wpAnyH_done (by kernel_rfl) ?_ _
          rotate_left 1
          focus
            go_simp
            refine hK.out _ _ (trivial) ?_
            clear hK K
            try simp only [Act.put, List.setIfInBounds_toArray, List.set_cons_zero, List.set_cons_succ]
            refine regt_call 1 (by kernel_rfl) (by rfl) (fun K hK => ?_)
            go_simp
            refine hK.out _ _ (trivial) ?_
            clear hK K
            try simp only [Act.put, List.setIfInBounds_toArray, List.set_cons_zero, List.set_cons_succ]
            refine regt_call 7 (by kernel_rfl) (by rfl) (fun K hK => ?_)
            refine step_appA rfl tyOpt _ _ rfl (w1.heap.size + 1) _ _ _ (l.map (·.2)) rfl (HKk.out.after (by repeat (first | exact Below.refl _ _ | assumption | refine Below.drew ?_ | refine below_drewN ?_ _ | refine Below.alloc ?_ (by first | (simp; done) | omega | (simp; omega)) _ | refine Below.setCell ?_ (by first | (simp; done) | omega | (simp; omega)) _))) _ _ _ _ [ox] rfl (arr_lit (P := optD (Sel w1.heap.size A1 A2) wk 9223372036854775807 (n + 1)) _ #[.int .u16 (ox.id : Int), .string (str ox.space), .string (str ox.name), .slice B1 p1 q1, .slice B2 p2 q2] ox rfl (HRx.out.mono (S' := Sel w1.heap.size A1 A2) fun b hb _ => ⟨by (have hb2 : _ ≤ b := hb; simp at hb2; omega), fun e => by (have hb2 : _ ≤ b := hb; have := HNB.out b e; simp at hb2; omega), fun e => by (have hb2 : _ ≤ b := hb; have := HKB.out b e; simp at hb2; omega)⟩).to (by simp)) (fun _ _ h => h.one) (fun _ _ _ h => h) (by omega) (by unfold maxLen; omega) (by simp; omega) ?_; intro A4 m4 d4 w5 hown5 hg5 hw5; have o45 : w5.cell? ⟨w1.heap.size, 4, none⟩ = some (.slice A2 m2 d2) := gcx hg5 (fun e => by have := HKB.out _ e; omega) (by go_simp); have f45 : w5.frozen? ⟨w1.heap.size, 4, none⟩ = false := gfroz hg5 (fun e => by have := HKB.out _ e.symm; omega) (by simp; omega) (by go_simp); have hz5 := hg5.size; simp at hz5; have HO5 := Lib.hid hown5; clear hown5
            refine hK.out _ _ (trivial) ?_
            clear hK K
            try simp only [Act.put, List.setIfInBounds_toArray, List.set_cons_zero, List.set_cons_succ]
            (refine regt_take 8 (v := ?_) (by rfl) (by kernel_rfl) (by kernel_rfl) (by kernel_rfl) (by exact fun _ _ _ h => h) (by rfl) ?_ ?_; rotate_left; focus (intro w hSw; go_simp; try with_reducible rfl))
            simp only [Act.put, List.setIfInBounds_toArray, List.set_cons_zero, List.set_cons_succ]
            refine regt_call 9 (by kernel_rfl) (by rfl) (fun K hK => ?_)
            go_simp
            refine hK.out _ _ (trivial) ?_
            clear hK K
            try simp only [Act.put, List.setIfInBounds_toArray, List.set_cons_zero, List.set_cons_succ]
            refine wpAnyH_done (by kernel_rfl) ?_ _
        all_goals
          have hAb : wk.grownBy w5 (A2.map (·.block)) := grow_seq (grow_of_below (row := A2.map (·.block)) (by repeat (first | exact Below.refl _ _ | assumption | refine Below.drew ?_ | refine below_drewN ?_ _ | refine Below.alloc ?_ (by first | (simp; done) | omega | (simp; omega)) _ | refine Below.setCell ?_ (by first | (simp; done) | omega | (simp; omega)) _))) hg5 fun j e => .inr e
          have hA2X : A2.map (·.block) ≠ some X := fun e => by have := HKB.out _ e; omega
          have hA2O : A2.map (·.block) ≠ some w1.heap.size := fun e => by have := HKB.out _ e; omega
          have hA2R : A2.map (·.block) ≠ some w.heap.size := fun e => by have := HKB.out _ e; omega
          have hXO : ∀ b, w1.heap.size ≤ b → (some X : Option Nat) ≠ some b := fun b h e => by injection e with e; omega
          have hG6 := grow_setCell w5 w1.heap.size 4 (.slice A4 m4 d4)
          have hNX : ∀ b, A1.map (·.block) = some b → w1.heap.size < b ∧ A2.map (·.block) ≠ some b := fun b e => ⟨(HNB.out b e).1, HNE.out b e⟩
          have B6 := Lib.hid ((((HO.out.after (Below.refl _ wr).drew).grown hgx (hXO _ (Nat.le_refl _))).grown hAb hA2O).set4 (.slice A4 m4 d4))
          have R6 := Lib.hid ((((HR.out.after (Below.refl _ wr).drew).grown hgx (fun e => by injection e with e; omega)).grown hAb hA2R).setOther (j := w1.heap.size) (i := 4) (by omega) (.slice A4 m4 d4))
          have D6 := Lib.hid ((HAx.out.grown hAb hA2X (fun b h e => by have := HKB.out b e; have := HS.out b h; omega)).set (j := w1.heap.size) (i := 4) (by omega) (fun b h => by have := HS.out b h; omega) (.slice A4 m4 d4))
          have N6 := Lib.hid ((((HN.out.after (Below.refl _ wr).drew).grown hgx (fun b e => by have h := hNX b e; intro e2; injection e2 with e2; omega)).grown hAb (fun b e e2 => (hNX b e).2 e2.symm)).grown hG6 (fun b e e2 => by injection e2 with e2; have h := hNX b e; omega))
          have hw4 : ∀ b, A4.map (·.block) = some b → w1.heap.size < b := fun b e => by rcases hw5 b e with h1 | h1; exact (HKB.out b h1).1; simp at h1; omega
          have K6 : Hid (OwnA 62 5 (optD (Sel w1.heap.size A1 A4) (w5.setCell ⟨w1.heap.size, 4, none⟩ (.slice A4 m4 d4)) 9223372036854775807 (n + 1)) (w1.heap.size + 1) (w5.setCell ⟨w1.heap.size, 4, none⟩ (.slice A4 m4 d4)) A4 m4 d4 ((l ++ [([], ox)] : List (B × Opt)).map fun x => x.2)) := by
            rw [List.map_append]
            exact (HO5.out.grown hG6 (fun b e e2 => by injection e2 with e2; have := hw4 b e; omega)).imp fun x _ v h => (((h.mono (S' := fun b => Sel w1.heap.size A1 A2 b ∧ b < wk.heap.size) fun b h1 h2 => ⟨h1, h2⟩).keep hAb.size fun b hs hb => hAb.block b hb (fun e => hs.1.2.2 e.symm)).keep hG6.size fun b hs hb => hG6.block b hb (fun e => by injection e with e; have := hs.1.1; omega)).mono (S' := Sel w1.heap.size A1 A4) fun b hs _ => ⟨hs.1.1, hs.1.2.1, fun e => by rcases hw5 b e with h1 | h1; exact hs.1.2.2 h1; simp at h1; have := hs.2; omega⟩
          have E6 : Hid (∀ b, A1.map (·.block) = some b → A4.map (·.block) ≠ some b) := fun b e1 e2 => by rcases hw5 b e2 with h | h; exact (hNX b e1).2 h; have := HNB.out b e1; simp at h; omega
          have G6 : w.grownBy (w5.setCell ⟨w1.heap.size, 4, none⟩ (.slice A4 m4 d4)) (some X) := grow_seq (grow_seq (grow_seq (grow_seq hgr (grow_of_below (row := some X) (Below.refl _ wr).drew) fun j e => .inr e) hgx fun j e => .inr e) hAb (fun j e => by have := HKB.out j e; left; omega)) hG6 (fun j e => by injection e with e; left; omega)
          have P6 : Hid (Prg n 49 (m) (shortR (.ok rs)) (k + 1) (l ++ [([], ox)]) sx) := HPRG.out.step hlt ([], ox) sx (kid_no hi48 HPx.out).1 (kid_no hi48 HPx.out).2
          have L6 : (l ++ [([], ox)]).length = k + 1 := by have := HLL.out; simp; omega
          have N7 := N6.out
          rw [← nms_snoc_no hi48 l ([], ox)] at N7
          clear hAb hA2X hA2O hA2R hXO hG6 hNX hw4 o45 f45 o4k f4k
          go_wp2_with fail
          exact ⟨⟨k + 1, A1, m1, d1, A4, m4, d4, l ++ [([], ox)], sx, by omega, by go_num, L6, B6.out, R6.out, D6.out, N7, K6.out, E6, G6, P6⟩, by simp [intOf]; omega⟩
      | error ee =>
        have hf := HPRG.out.fin (hd := ([], [])) (.inr ⟨_, rfl⟩) _ HGETO.out.symm
        have HP : Hid (RdPost (n + 1) (.ok cur) (mkO 49 ([], []) l) _) := ⟨fun cu e r hr => by injection e with e; subst e; subst hr; exact hf, fun e h => by cases h⟩
        clear hf
        have HF : Hid (OptR (fun b => w.heap.size < b) wr 9223372036854775807 (n + 1) A1 m1 d1 A2 m2 d2 (mkO 49 ([], []) l)) := ⟨hid, hSPL, hNML, (hN.arr (by decide)).mono fun b h _ => by omega, ((hK.arr (by decide)).mono fun b h _ => by omega).imp fun _ _ _ h => h.mono fun b h _ => by (have := h.1; omega)⟩
        clear hN hK

        have hAl := hA.lt
        have hOl := hO.lt
        have hRl := hR.lt
        have o0 := hO.c0
        have o1 := hO.c1
        have o2 := hO.c2
        have o3 := hO.c3
        have o4 := hO.c4
        have HA := Lib.hid hA
        obtain ⟨AX2, nX2, cX2, x0, x1, x2, x3, x4⟩ := hA
        simp only [werr_error] at x1
        have hne : ee ≠ 0 := x4 ee rfl
        clear x0 x2 x3 x4

        have r0 := hR.c0
        have r1 := hR.c1
        have r2 := hR.c2
        have r3 := hR.c3
        have r4 := hR.c4
        have f0 := hR.fr 0
        have f1 := hR.fr 1
        have f2 := hR.fr 2
        have f3 := hR.fr 3
        have f4 := hR.fr 4
        clear hO hR
        go_wp2_with fail
        refine bodyPost_ret (v := .agg #[.int .u16 (49 : Nat), .string (str []), .string (str []), .slice A1 m1 d1, .slice A2 m2 d2]) (by simp [results, Tryd.results79, go_sem, r0, r1, r2, r3, r4]) rfl ?_
        have hg5 := grow5 wr w.heap.size (.int .u16 (49 : Nat)) (.string (str [])) (.string (str [])) (.slice A1 m1 d1) (.slice A2 m2 d2)
        have HF5 := (HF.out.grown hg5 (fun b (h : _ < b) e => by injection e with e; omega)).mono (S' := fun b => w.heap.size ≤ b) fun b (h : _ < b) _ => by omega
        have HA5 := HA.out.grown hg5 (fun e => by injection e with e; omega) (fun b h e => by injection e with e; have := HS.out b h; omega)
        have HG5 : w.grownBy _ (some X) := grow_seq hgr hg5 fun j e => by (injection e with e; left; omega)
        first
          | exact ⟨_, _, _, _, _, _, (mkO 49 ([], []) l), _, rfl, HF5, HA5, HG5, HP.out⟩
          | exact ⟨_, _, _, _, _, _, (mkO 49 ([], []) l), rfl, HF5, _, HA5, HG5, HP.out⟩
    · obtain hkm : k = m := by omega
      have HKM := Lib.hid hkm; clear hkm
      have hf := HPRG.out.fin (hd := ([], [])) (.inl HKM.out) _ HGETO.out.symm
      have HP : Hid (RdPost (n + 1) (.ok cur) (mkO 49 ([], []) l) _) := ⟨fun cu e r hr => by injection e with e; subst e; subst hr; exact hf, fun e h => by cases h⟩
      clear hf
      have HF : Hid (OptR (fun b => w.heap.size < b) wr 9223372036854775807 (n + 1) A1 m1 d1 A2 m2 d2 (mkO 49 ([], []) l)) := ⟨hid, hSPL, hNML, (hN.arr (by decide)).mono fun b h _ => by omega, ((hK.arr (by decide)).mono fun b h _ => by omega).imp fun _ _ _ h => h.mono fun b h _ => by (have := h.1; omega)⟩
      clear hN hK

      have hAl := hA.lt
      have hOl := hO.lt
      have hRl := hR.lt
      have o0 := hO.c0
      have o1 := hO.c1
      have o2 := hO.c2
      have o3 := hO.c3
      have o4 := hO.c4
      have HA := Lib.hid hA
      obtain ⟨AX2, nX2, cX2, x0, x1, x2, x3, x4⟩ := hA
      skip
      clear x0 x2 x3 x4

      have r0 := hR.c0
      have r1 := hR.c1
      have r2 := hR.c2
      have r3 := hR.c3
      have r4 := hR.c4
      have f0 := hR.fr 0
      have f1 := hR.fr 1
      have f2 := hR.fr 2
      have f3 := hR.fr 3
      have f4 := hR.fr 4
      clear hO hR
      go_wp2_with fail
      refine bodyPost_ret (v := .agg #[.int .u16 (49 : Nat), .string (str []), .string (str []), .slice A1 m1 d1, .slice A2 m2 d2]) (by simp [results, Tryd.results79, go_sem, r0, r1, r2, r3, r4]) rfl ?_
      have hg5 := grow5 wr w.heap.size (.int .u16 (49 : Nat)) (.string (str [])) (.string (str [])) (.slice A1 m1 d1) (.slice A2 m2 d2)
      have HF5 := (HF.out.grown hg5 (fun b (h : _ < b) e => by injection e with e; omega)).mono (S' := fun b => w.heap.size ≤ b) fun b (h : _ < b) _ => by omega
      have HA5 := HA.out.grown hg5 (fun e => by injection e with e; omega) (fun b h e => by injection e with e; have := HS.out b h; omega)
      have HG5 : w.grownBy _ (some X) := grow_seq hgr hg5 fun j e => by (injection e with e; left; omega)
      first
        | exact ⟨_, _, _, _, _, _, (mkO 49 ([], []) l), _, rfl, HF5, HA5, HG5, HP.out⟩
        | exact ⟨_, _, _, _, _, _, (mkO 49 ([], []) l), rfl, HF5, _, HA5, HG5, HP.out⟩
end Go.Proofs.Sb

/- Walk over option.reader's option: numbers of types without names. Conditions: the table of names reads as it was laid. (written by gen_optread.py) -/
namespace Go.Proofs.Sb
open Go.RowKit _root_.Sb

set_option maxHeartbeats 8000000 in
set_option maxRecDepth 100000 in
theorem readO_else {n : Nat} {S : Nat → Prop} {w : World} {X : Nat} {deep : Int} (ih : ReadO n) {cur rs : B} {id : Nat} (hrd : RdAt S w X (.ok cur)) (hS : ∀ b, S b → b < X) (hX : 0 < X) (hpl : Pl w) (hdn : deep + n = 20) (hd1 : 1 ≤ deep) (hgn : getN 2 cur = .ok (id, rs)) (hk0 : 0 ≤ kn id) (hi0 : ¬ id = 0) :
    Calls Tryd.prog 79 #[.pointer (some ⟨X, 0, none⟩), .int .i64 deep] w fun e w' => ∃ A1 n1 c1 A2 n2 c2 o s', e = .returned (optV o A1 n1 c1 A2 n2 c2) ∧ OptR (fun b => w.heap.size ≤ b) w' 9223372036854775807 (n + 1) A1 n1 c1 A2 n2 c2 o ∧ RdAt S w' X s' ∧ w.grownBy w' (some X) ∧ RdPost (n + 1) (.ok cur) o s' := by
  have hXlt := hrd.lt
  have HRD := Lib.hid hrd
  have HS := Lib.hid hS; clear hS
  have HPL := Lib.hid hpl; clear hpl
  have hX1 : ∀ b, S b → b ≠ X := fun b h e => by have := HS.out b h; omega
  have HX1 := Lib.hid hX1; clear hX1
  obtain ⟨AX, nX, cX, g0, g1, g2, g3, g4⟩ := hrd
  have G2 := Lib.hid g2
  have f1 := g2 1
  clear g2 g3
  go_enter Tryd.func79, Tryd.ntmps79
  have hid : id < 65536 := (getN_ok hgn).2.2.2
  have HG := Lib.hid hgn; clear hgn
  simp only [werr_ok] at g1
  clear g4
  have hi48 : ¬ id = 48 := kn_not48 hk0
  have hi49 : ¬ id = 49 := fun e => by rw [e, kn_49] at hk0; omega
  go_wp2_with fail

  refine (rshort_any (HRD.out.after (by repeat (first | exact Below.refl _ _ | assumption | refine Below.drew ?_ | refine below_drewN ?_ _ | refine Below.alloc ?_ (by first | (simp; done) | omega | (simp; omega)) _ | refine Below.setCell ?_ (by first | (simp; done) | omega | (simp; omega)) _))) HX1.out).mono ?_
  rintro e1 w1 ⟨rfl, ha1, hg1⟩
  rw [shortR_ok HG.out] at ha1
  rw [shortV_ok HG.out]
  simp only [rval_ok] at ha1 ⊢
  have hgw : w.grownBy w1 (some X) := grow_seq (grow_of_below (row := some X) (by repeat (first | exact Below.refl _ _ | assumption | refine Below.drew ?_ | refine below_drewN ?_ _ | refine Below.alloc ?_ (by first | (simp; done) | omega | (simp; omega)) _ | refine Below.setCell ?_ (by first | (simp; done) | omega | (simp; omega)) _))) hg1 fun j e => .inr e
  have hR1 : BoxAt w1 w.heap.size (.int .u16 0) (.string (str [])) (.string (str [])) (.slice none 0 0) (.slice none 0 0) := (box_new w _ _ _ _ _ _).grown hg1 (fun e => by injection e with e; omega)
  have hz1 : w.heap.size < w1.heap.size := hR1.lt
  have HR1 := Lib.hid hR1; clear hR1
  have HA1 := Lib.hid ha1; clear ha1
  clear g0 g1 f1
  go_wp2_with fail
  refine (kids_any (id := id) hid ((HPL.out.grown hgw (fun e => by injection e with e; omega)).after (by repeat (first | exact Below.refl _ _ | assumption | refine Below.drew ?_ | refine below_drewN ?_ _ | refine Below.alloc ?_ (by first | (simp; done) | omega | (simp; omega)) _ | refine Below.setCell ?_ (by first | (simp; done) | omega | (simp; omega)) _)))).mono ?_
  rintro e2 w2 ⟨rfl, hb2⟩
  have hO2 : BoxAt w2 w1.heap.size (.int .u16 (id : Nat)) (.string (str [])) (.string (str [])) (.slice none 0 0) (.slice none 0 0) := (box_new w1 _ _ _ _ _ _).after hb2
  have hz2 : w1.heap.size < w2.heap.size := hO2.lt
  have hb12 : Below w1.heap.size w1 w2 := Below.trans (by repeat (first | exact Below.refl _ _ | assumption | refine Below.drew ?_ | refine below_drewN ?_ _ | refine Below.alloc ?_ (by first | (simp; done) | omega | (simp; omega)) _ | refine Below.setCell ?_ (by first | (simp; done) | omega | (simp; omega)) _)) (hb2.mono (by simp))
  have hA2 : RdAt S w2 X (.ok rs) := HA1.out.after hb12
  have HA2 := Lib.hid hA2
  have hR2 : BoxAt w2 w.heap.size (.int .u16 0) (.string (str [])) (.string (str [])) (.slice none 0 0) (.slice none 0 0) := HR1.out.after hb12
  have HR2 := Lib.hid hR2; clear hR2
  have hgw2 : w.grownBy w2 (some X) := grow_seq hgw (grow_of_below (row := some X) hb12) fun j e => .inr e
  obtain ⟨A2, n2, c2, e0, e1, e2, e3, e4⟩ := hA2
  have o0 := hO2.c0
  have HO2 := Lib.hid hO2; clear hO2
  simp only [werr_ok] at e1
  have e2f := e2 1
  clear e2 e3 e4
  have hkr := kn_range (id)

  have hkp : knP id = ((kn id).toNat : Nat) := by unfold knP; rw [if_neg (by omega)]; omega
  rw [hkp]
  have HM : Hid ((kn id).toNat ≤ 65535) := by (have h1 : (kn id).toNat ≤ 65535 := by omega); exact h1
  have HID := Lib.hid hid
  have hm2 : (kn id).toNat ≤ 2 := by omega
  generalize hmm : (kn id).toNat = m at *
  have HMM := Lib.hid hmm; clear hmm
  have hSPL : ([] : B).length ≤ 9223372036854775807 := Nat.zero_le _
  have hNML : ([] : B).length ≤ 9223372036854775807 := Nat.zero_le _
  clear hkp hkr
  go_wp2_with fail

  have hGETO : getO (n + 1) cur = finO n id (m) ([], []) (.ok rs) := by rw [← HMM.out]; exact getO_else HG.out hk0 hi0
  have HGETO := Lib.hid hGETO; clear hGETO
  go_loopw [7] (fun i wr => ∃ (k : Nat), ∃ A1 m1 d1 A2 m2 d2 l st, k ≤ m ∧ i = .int .i64 (k : Nat) ∧ l.length = k ∧ BoxAt wr w1.heap.size (.int .u16 (id : Nat)) (.string (str [])) (.string (str [])) (.slice A1 m1 d1) (.slice A2 m2 d2) ∧ BoxAt wr w.heap.size (.int .u16 0) (.string (str [])) (.string (str [])) (.slice none 0 0) (.slice none 0 0) ∧ RdAt S wr X st ∧ OwnA 9 1 strP (w1.heap.size + 1) wr A1 m1 d1 (nmsO id l) ∧ OwnA 62 5 (optD (Sel w1.heap.size A1 A2) wr 9223372036854775807 (n + 1)) (w1.heap.size + 1) wr A2 m2 d2 (l.map (·.2)) ∧ Hid (∀ b, A1.map (·.block) = some b → A2.map (·.block) ≠ some b) ∧ w.grownBy wr (some X) ∧ Hid (Prg n id (m) (.ok rs) k l st)) (fun i _ => m - (intOf i).toNat)
  case atStart => exact ⟨0, none, 0, 0, none, 0, 0, [], _, by omega, rfl, rfl, HO2.out, HR2.out, HA2.out, (by (unfold nmsO; split <;> exact OwnA.nil)), OwnA.nil, (fun b h => by cases h), hgw2, Prg.zero _ _ _ _⟩
  case round =>
    obtain ⟨k, A1, m1, d1, A2, m2, d2, l, st, hk, rfl, hll, hO, hR, hA, hN, hK, HNE, hgr, HPRG⟩ := hrel
    have HLL := Lib.hid hll; clear hll
    have hzr := hgr.size
    have hNb : ∀ b, A1.map (·.block) = some b → w1.heap.size < b ∧ b < wr.heap.size := fun b e => by have := hN.block b e; omega
    have HNB := Lib.hid hNb; clear hNb
    have hKb : ∀ b, A2.map (·.block) = some b → w1.heap.size < b ∧ b < wr.heap.size := fun b e => by have := hK.block b e; omega
    have HKB := Lib.hid hKb; clear hKb
    by_cases hlt : k < m
    · cases st with
      | ok rs2 =>
        have hml := hK.len (by decide)
        have hmk : m2 ≤ 65536 := by have := HLL.out; rw [List.length_map] at hml; have := HM.out; omega
        clear hml

        have hAl := hA.lt
        have hOl := hO.lt
        have hRl := hR.lt
        have o0 := hO.c0
        have o1 := hO.c1
        have o2 := hO.c2
        have o3 := hO.c3
        have o4 := hO.c4
        have HA := Lib.hid hA
        obtain ⟨AX2, nX2, cX2, x0, x1, x2, x3, x4⟩ := hA
        simp only [werr_ok] at x1
        clear x0 x2 x3 x4

        have of3 := hO.fr 3
        have of4 := hO.fr 4
        have HO := Lib.hid hO; clear hO
        have HR := Lib.hid hR; clear hR
        have HN := Lib.hid hN; clear hN
        have HK := Lib.hid hK; clear hK
        go_wp2_with fail
        refine regt_start (by kernel_rfl) ?_
        (refine regt_take 0 (v := ?_) (by rfl) (by kernel_rfl) (by kernel_rfl) (by kernel_rfl) (by exact fun _ _ _ h => h) (by rfl) ?_ ?_; rotate_left; focus (intro w hSw; go_simp; try with_reducible rfl))
        simp only [Act.put, List.setIfInBounds_toArray, List.set_cons_zero, List.set_cons_succ]
        (refine regt_take 2 (v := ?_) (by rfl) (by kernel_rfl) (by kernel_rfl) (by kernel_rfl) (by exact fun _ _ _ h => h) (by rfl) ?_ ?_; rotate_left; focus (intro w hSw; go_simp; try with_reducible rfl))
        simp only [Act.put, List.setIfInBounds_toArray, List.set_cons_zero, List.set_cons_succ]
        (refine regt_take 3 (v := ?_) (by rfl) (by kernel_rfl) (by kernel_rfl) (by kernel_rfl) (by exact fun _ _ _ h => h) (by rfl) ?_ ?_; rotate_left; focus (intro w hSw; go_simp; try with_reducible rfl))
        simp only [Act.put, List.setIfInBounds_toArray, List.set_cons_zero, List.set_cons_succ]
        (refine regt_take 4 (v := ?_) (by rfl) (by kernel_rfl) (by kernel_rfl) (by kernel_rfl) (by exact fun _ _ _ h => h) (by rfl) ?_ ?_; rotate_left; focus (intro w hSw; go_simp; try with_reducible rfl))
        simp only [Act.put, List.setIfInBounds_toArray, List.set_cons_zero, List.set_cons_succ]
        refine regt_two 1 5 (by kernel_rfl) (by rfl) (by rfl) (fun K hK => ?_) (fun K hK => ?_)
        focus
          go_simp
          refine hK.out _ _ (trivial) ?_
          clear hK K
          try simp only [Act.put, List.setIfInBounds_toArray, List.set_cons_zero, List.set_cons_succ]
          refine regt_call 5 (by kernel_rfl) (by rfl) (fun K hK => ?_)
          go_simp
          go_at_call 79; have hwr : IntKind.i64.wrap (deep + 1) = deep + 1 := (wrap_small _ (by omega) (by omega)); rw [hwr]; clear hwr; refine (ih (deep := deep + 1) (HA.out.after (by repeat (first | exact Below.refl _ _ | assumption | refine Below.drew ?_ | refine below_drewN ?_ _ | refine Below.alloc ?_ (by first | (simp; done) | omega | (simp; omega)) _ | refine Below.setCell ?_ (by first | (simp; done) | omega | (simp; omega)) _))) HS.out hX ((HPL.out.grown hgr (fun e => by injection e with e; omega)).after (by repeat (first | exact Below.refl _ _ | assumption | refine Below.drew ?_ | refine below_drewN ?_ _ | refine Below.alloc ?_ (by first | (simp; done) | omega | (simp; omega)) _ | refine Below.setCell ?_ (by first | (simp; done) | omega | (simp; omega)) _))) (by omega) (by omega)).mono ?_; rintro ek wk ⟨B1, p1, q1, B2, p2, q2, ox, sx, rfl, hRx, hAx, hgx, hPx⟩; have hzk := hgx.size; simp at hzk; have hzw9 := Nat.le_refl wr.heap.size; have hlk : w1.heap.size < wk.heap.size := (by omega); have o4k : wk.cell? ⟨w1.heap.size, 4, none⟩ = some (.slice A2 m2 d2) := gcx hgx (fun e => by injection e with e; omega) (by go_simp); have f4k : wk.frozen? ⟨w1.heap.size, 4, none⟩ = false := gfroz hgx (fun e => by injection e with e; omega) (by simp; omega) (by go_simp); have HRx := Lib.hid hRx; clear hRx; have HAx := Lib.hid hAx; clear hAx; have HPx := Lib.hid hPx; clear hPx; have HKk := Lib.hid (((HK.out.after (Below.refl _ wr).drew).grown hgx (fun b e e2 => by injection e2 with e2; have := HKB.out b e; omega)).imp (P' := optD (Sel w1.heap.size A1 A2) wk 9223372036854775807 (n + 1)) fun x _ v h => (h.keep (Below.refl wr.heap.size wr).drew.size fun b _ hb => (Below.refl wr.heap.size wr).drew.block b hb).keep hgx.size fun b hs hb => hgx.block b hb (fun e => by injection e with e; have := hs.1; omega))
          refine hK.out _ _ (trivial) ?_
          clear hK K
          try simp only [Act.put, List.setIfInBounds_toArray, List.set_cons_zero, List.set_cons_succ]
          refine regt_call 6 (by kernel_rfl) (by rfl) (fun K hK => ?_)
          go_simp
          refine hK.out _ _ (trivial) ?_
          clear hK K
          try simp only [Act.put, List.setIfInBounds_toArray, List.set_cons_zero, List.set_cons_succ]
          refine regt_call 7 (by kernel_rfl) (by rfl) (fun K hK => ?_)
          refine step_appA rfl tyOpt _ _ rfl (w1.heap.size + 1) _ _ _ (l.map (·.2)) rfl (HKk.out.after (by repeat (first | exact Below.refl _ _ | assumption | refine Below.drew ?_ | refine below_drewN ?_ _ | refine Below.alloc ?_ (by first | (simp; done) | omega | (simp; omega)) _ | refine Below.setCell ?_ (by first | (simp; done) | omega | (simp; omega)) _))) _ _ _ _ [ox] rfl (arr_lit (P := optD (Sel w1.heap.size A1 A2) wk 9223372036854775807 (n + 1)) _ #[.int .u16 (ox.id : Int), .string (str ox.space), .string (str ox.name), .slice B1 p1 q1, .slice B2 p2 q2] ox rfl (HRx.out.mono (S' := Sel w1.heap.size A1 A2) fun b hb _ => ⟨by (have hb2 : _ ≤ b := hb; simp at hb2; omega), fun e => by (have hb2 : _ ≤ b := hb; have := HNB.out b e; simp at hb2; omega), fun e => by (have hb2 : _ ≤ b := hb; have := HKB.out b e; simp at hb2; omega)⟩).to (by simp)) (fun _ _ h => h.one) (fun _ _ _ h => h) (by omega) (by unfold maxLen; omega) (by simp; omega) ?_; intro A4 m4 d4 w5 hown5 hg5 hw5; have o45 : w5.cell? ⟨w1.heap.size, 4, none⟩ = some (.slice A2 m2 d2) := gcx hg5 (fun e => by have := HKB.out _ e; omega) (by go_simp); have f45 : w5.frozen? ⟨w1.heap.size, 4, none⟩ = false := gfroz hg5 (fun e => by have := HKB.out _ e.symm; omega) (by simp; omega) (by go_simp); have hz5 := hg5.size; simp at hz5; have HO5 := Lib.hid hown5; clear hown5
          refine hK.out _ _ (trivial) ?_
          clear hK K
          try simp only [Act.put, List.setIfInBounds_toArray, List.set_cons_zero, List.set_cons_succ]
          (refine regt_take 8 (v := ?_) (by rfl) (by kernel_rfl) (by kernel_rfl) (by kernel_rfl) (by exact fun _ _ _ h => h) (by rfl) ?_ ?_; rotate_left; focus (intro w hSw; go_simp; try with_reducible rfl))
          simp only [Act.put, List.setIfInBounds_toArray, List.set_cons_zero, List.set_cons_succ]
          refine regt_call 9 (by kernel_rfl) (by rfl) (fun K hK => ?_)
          go_simp
          refine hK.out _ _ (trivial) ?_
          clear hK K
          try simp only [Act.put, List.setIfInBounds_toArray, List.set_cons_zero, List.set_cons_succ]
          refine wpAnyH_done (by kernel_rfl) ?_ _
        rotate_left 1
        focus
          go_simp
          go_at_call 79; have hwr : IntKind.i64.wrap (deep + 1) = deep + 1 := (wrap_small _ (by omega) (by omega)); rw [hwr]; clear hwr; refine (ih (deep := deep + 1) (HA.out.after (by repeat (first | exact Below.refl _ _ | assumption | refine Below.drew ?_ | refine below_drewN ?_ _ | refine Below.alloc ?_ (by first | (simp; done) | omega | (simp; omega)) _ | refine Below.setCell ?_ (by first | (simp; done) | omega | (simp; omega)) _))) HS.out hX ((HPL.out.grown hgr (fun e => by injection e with e; omega)).after (by repeat (first | exact Below.refl _ _ | assumption | refine Below.drew ?_ | refine below_drewN ?_ _ | refine Below.alloc ?_ (by first | (simp; done) | omega | (simp; omega)) _ | refine Below.setCell ?_ (by first | (simp; done) | omega | (simp; omega)) _))) (by omega) (by omega)).mono ?_; rintro ek wk ⟨B1, p1, q1, B2, p2, q2, ox, sx, rfl, hRx, hAx, hgx, hPx⟩; have hzk := hgx.size; simp at hzk; have hzw9 := Nat.le_refl wr.heap.size; have hlk : w1.heap.size < wk.heap.size := (by omega); have o4k : wk.cell? ⟨w1.heap.size, 4, none⟩ = some (.slice A2 m2 d2) := gcx hgx (fun e => by injection e with e; omega) (by go_simp); have f4k : wk.frozen? ⟨w1.heap.size, 4, none⟩ = false := gfroz hgx (fun e => by injection e with e; omega) (by simp; omega) (by go_simp); have HRx := Lib.hid hRx; clear hRx; have HAx := Lib.hid hAx; clear hAx; have HPx := Lib.hid hPx; clear hPx; have HKk := Lib.hid (((HK.out.after (Below.refl _ wr).drew).grown hgx (fun b e e2 => by injection e2 with e2; have := HKB.out b e; omega)).imp (P' := optD (Sel w1.heap.size A1 A2) wk 9223372036854775807 (n + 1)) fun x _ v h => (h.keep (Below.refl wr.heap.size wr).drew.size fun b _ hb => (Below.refl wr.heap.size wr).drew.block b hb).keep hgx.size fun b hs hb => hgx.block b hb (fun e => by injection e with e; have := hs.1; omega))
          refine hK.out _ _ (trivial) ?_
          clear hK K
          try simp only [Act.put, List.setIfInBounds_toArray, List.set_cons_zero, List.set_cons_succ]
          refine regt_two 1 6 (by kernel_rfl) (by rfl) (by rfl) (fun K hK => ?_) (fun K hK => ?_)
          focus
            go_simp
            refine hK.out _ _ (trivial) ?_
            clear hK K
            try simp only [Act.put, List.setIfInBounds_toArray, List.set_cons_zero, List.set_cons_succ]
            refine regt_call 6 (by kernel_rfl) (by rfl) (fun K hK => ?_)
            go_simp
            refine hK.out _ _ (trivial) ?_
            clear hK K
            try simp only [Act.put, List.setIfInBounds_toArray, List.set_cons_zero, List.set_cons_succ]
            refine regt_call 7 (by kernel_rfl) (by rfl) (fun K hK => ?_)
            refine step_appA rfl tyOpt _ _ rfl (w1.heap.size + 1) _ _ _ (l.map (·.2)) rfl (HKk.out.after (by repeat (first | exact Below.refl _ _ | assumption | refine Below.drew ?_ | refine below_drewN ?_ _ | refine Below.alloc ?_ (by first | (simp; done) | omega | (simp; omega)) _ | refine Below.setCell ?_ (by first | (simp; done) | omega | (simp; omega)) _))) _ _ _ _ [ox] rfl (arr_lit (P := optD (Sel w1.heap.size A1 A2) wk 9223372036854775807 (n + 1)) _ #[.int .u16 (ox.id : Int), .string (str ox.space), .string (str ox.name), .slice B1 p1 q1, .slice B2 p2 q2] ox rfl (HRx.out.mono (S' := Sel w1.heap.size A1 A2) fun b hb _ => ⟨by (have hb2 : _ ≤ b := hb; simp at hb2; omega), fun e => by (have hb2 : _ ≤ b := hb; have := HNB.out b e; simp at hb2; omega), fun e => by (have hb2 : _ ≤ b := hb; have := HKB.out b e; simp at hb2; omega)⟩).to (by simp)) (fun _ _ h => h.one) (fun _ _ _ h => h) (by omega) (by unfold maxLen; omega) (by simp; omega) ?_; intro A4 m4 d4 w5 hown5 hg5 hw5; have o45 : w5.cell? ⟨w1.heap.size, 4, none⟩ = some (.slice A2 m2 d2) := gcx hg5 (fun e => by have := HKB.out _ e; omega) (by go_simp); have f45 : w5.frozen? ⟨w1.heap.size, 4, none⟩ = false := gfroz hg5 (fun e => by have := HKB.out _ e.symm; omega) (by simp; omega) (by go_simp); have hz5 := hg5.size; simp at hz5; have HO5 := Lib.hid hown5; clear hown5
            refine hK.out _ _ (trivial) ?_
            clear hK K
            try simp only [Act.put, List.setIfInBounds_toArray, List.set_cons_zero, List.set_cons_succ]
            (refine regt_take 8 (v := ?_) (by rfl) (by kernel_rfl) (by kernel_rfl) (by kernel_rfl) (by exact fun _ _ _ h => h) (by rfl) ?_ ?_; rotate_left; focus (intro w hSw; go_simp; try with_reducible rfl))
            simp only [Act.put, List.setIfInBounds_toArray, List.set_cons_zero, List.set_cons_succ]
            refine regt_call 9 (by kernel_rfl) (by rfl) (fun K hK => ?_)
            go_simp
            refine hK.out _ _ (trivial) ?_
            clear hK K
            try simp only [Act.put, List.setIfInBounds_toArray, List.set_cons_zero, List.set_cons_succ]
            refine wpAnyH_done (by kernel_rfl) ?_ _
          rotate_left 1
          focus
            go_simp
            refine hK.out _ _ (trivial) ?_
            clear hK K
            try simp only [Act.put, List.setIfInBounds_toArray, List.set_cons_zero, List.set_cons_succ]
            refine regt_call 1 (by kernel_rfl) (by rfl) (fun K hK => ?_)
            go_simp
            refine hK.out _ _ (trivial) ?_
            clear hK K
            try simp only [Act.put, List.setIfInBounds_toArray, List.set_cons_zero, List.set_cons_succ]
            refine regt_call 7 (by kernel_rfl) (by rfl) (fun K hK => ?_)
            refine step_appA rfl tyOpt _ _ rfl (w1.heap.size + 1) _ _ _ (l.map (·.2)) rfl (HKk.out.after (by repeat (first | exact Below.refl _ _ | assumption | refine Below.drew ?_ | refine below_drewN ?_ _ | refine Below.alloc ?_ (by first | (simp; done) | omega | (simp; omega)) _ | refine Below.setCell ?_ (by first | (simp; done) | omega | (simp; omega)) _))) _ _ _ _ [ox] rfl (arr_lit (P := optD (Sel w1.heap.size A1 A2) wk 9223372036854775807 (n + 1)) _ #[.int .u16 (ox.id : Int), .string (str ox.space), .string (str ox.name), .slice B1 p1 q1, .slice B2 p2 q2] ox rfl (HRx.out.mono (S' := Sel w1.heap.size A1 A2) fun b hb _ => ⟨by (have hb2 : _ ≤ b := hb; simp at hb2; omega), fun e => by (have hb2 : _ ≤ b := hb; have := HNB.out b e; simp at hb2; omega), fun e => by (have hb2 : _ ≤ b := hb; have := HKB.out b e; simp at hb2; omega)⟩).to (by simp)) (fun _ _ h => h.one) (fun _ _ _ h => h) (by omega) (by unfold maxLen; omega) (by simp; omega) ?_; intro A4 m4 d4 w5 hown5 hg5 hw5; have o45 : w5.cell? ⟨w1.heap.size, 4, none⟩ = some (.slice A2 m2 d2) := gcx hg5 (fun e => by have := HKB.out _ e; omega) (by go_simp); have f45 : w5.frozen? ⟨w1.heap.size, 4, none⟩ = false := gfroz hg5 (fun e => by have := HKB.out _ e.symm; omega) (by simp; omega) (by go_simp); have hz5 := hg5.size; simp at hz5; have HO5 := Lib.hid hown5; clear hown5
            refine hK.out _ _ (trivial) ?_
            clear hK K
            try simp only [Act.put, List.setIfInBounds_toArray, List.set_cons_zero, List.set_cons_succ]
            (refine regt_take 8 (v := ?_) (by rfl) (by kernel_rfl) (by kernel_rfl) (by kernel_rfl) (by exact fun _ _ _ h => h) (by rfl) ?_ ?_; rotate_left; focus (intro w hSw; go_simp; try with_reducible rfl))
            simp only [Act.put, List.setIfInBounds_toArray, List.set_cons_zero, List.set_cons_succ]
            refine regt_call 9 (by kernel_rfl) (by rfl) (fun K hK => ?_)
            go_simp
            refine hK.out _ _ (trivial) ?_
            clear hK K
            try simp only [Act.put, List.setIfInBounds_toArray, List.set_cons_zero, List.set_cons_succ]
            refine wpAnyH_done (by kernel_rfl) ?_ _
        all_goals
          have hAb : wk.grownBy w5 (A2.map (·.block)) := grow_seq (grow_of_below (row := A2.map (·.block)) (by repeat (first | exact Below.refl _ _ | assumption | refine Below.drew ?_ | refine below_drewN ?_ _ | refine Below.alloc ?_ (by first | (simp; done) | omega | (simp; omega)) _ | refine Below.setCell ?_ (by first | (simp; done) | omega | (simp; omega)) _))) hg5 fun j e => .inr e
          have hA2X : A2.map (·.block) ≠ some X := fun e => by have := HKB.out _ e; omega
          have hA2O : A2.map (·.block) ≠ some w1.heap.size := fun e => by have := HKB.out _ e; omega
          have hA2R : A2.map (·.block) ≠ some w.heap.size := fun e => by have := HKB.out _ e; omega
          have hXO : ∀ b, w1.heap.size ≤ b → (some X : Option Nat) ≠ some b := fun b h e => by injection e with e; omega
          have hG6 := grow_setCell w5 w1.heap.size 4 (.slice A4 m4 d4)
          have hNX : ∀ b, A1.map (·.block) = some b → w1.heap.size < b ∧ A2.map (·.block) ≠ some b := fun b e => ⟨(HNB.out b e).1, HNE.out b e⟩
          have B6 := Lib.hid ((((HO.out.after (Below.refl _ wr).drew).grown hgx (hXO _ (Nat.le_refl _))).grown hAb hA2O).set4 (.slice A4 m4 d4))
          have R6 := Lib.hid ((((HR.out.after (Below.refl _ wr).drew).grown hgx (fun e => by injection e with e; omega)).grown hAb hA2R).setOther (j := w1.heap.size) (i := 4) (by omega) (.slice A4 m4 d4))
          have D6 := Lib.hid ((HAx.out.grown hAb hA2X (fun b h e => by have := HKB.out b e; have := HS.out b h; omega)).set (j := w1.heap.size) (i := 4) (by omega) (fun b h => by have := HS.out b h; omega) (.slice A4 m4 d4))
          have N6 := Lib.hid ((((HN.out.after (Below.refl _ wr).drew).grown hgx (fun b e => by have h := hNX b e; intro e2; injection e2 with e2; omega)).grown hAb (fun b e e2 => (hNX b e).2 e2.symm)).grown hG6 (fun b e e2 => by injection e2 with e2; have h := hNX b e; omega))
          have hw4 : ∀ b, A4.map (·.block) = some b → w1.heap.size < b := fun b e => by rcases hw5 b e with h1 | h1; exact (HKB.out b h1).1; simp at h1; omega
          have K6 : Hid (OwnA 62 5 (optD (Sel w1.heap.size A1 A4) (w5.setCell ⟨w1.heap.size, 4, none⟩ (.slice A4 m4 d4)) 9223372036854775807 (n + 1)) (w1.heap.size + 1) (w5.setCell ⟨w1.heap.size, 4, none⟩ (.slice A4 m4 d4)) A4 m4 d4 ((l ++ [([], ox)] : List (B × Opt)).map fun x => x.2)) := by
            rw [List.map_append]
            exact (HO5.out.grown hG6 (fun b e e2 => by injection e2 with e2; have := hw4 b e; omega)).imp fun x _ v h => (((h.mono (S' := fun b => Sel w1.heap.size A1 A2 b ∧ b < wk.heap.size) fun b h1 h2 => ⟨h1, h2⟩).keep hAb.size fun b hs hb => hAb.block b hb (fun e => hs.1.2.2 e.symm)).keep hG6.size fun b hs hb => hG6.block b hb (fun e => by injection e with e; have := hs.1.1; omega)).mono (S' := Sel w1.heap.size A1 A4) fun b hs _ => ⟨hs.1.1, hs.1.2.1, fun e => by rcases hw5 b e with h1 | h1; exact hs.1.2.2 h1; simp at h1; have := hs.2; omega⟩
          have E6 : Hid (∀ b, A1.map (·.block) = some b → A4.map (·.block) ≠ some b) := fun b e1 e2 => by rcases hw5 b e2 with h | h; exact (hNX b e1).2 h; have := HNB.out b e1; simp at h; omega
          have G6 : w.grownBy (w5.setCell ⟨w1.heap.size, 4, none⟩ (.slice A4 m4 d4)) (some X) := grow_seq (grow_seq (grow_seq (grow_seq hgr (grow_of_below (row := some X) (Below.refl _ wr).drew) fun j e => .inr e) hgx fun j e => .inr e) hAb (fun j e => by have := HKB.out j e; left; omega)) hG6 (fun j e => by injection e with e; left; omega)
          have P6 : Hid (Prg n id (m) (.ok rs) (k + 1) (l ++ [([], ox)]) sx) := HPRG.out.step hlt ([], ox) sx (kid_no hi48 HPx.out).1 (kid_no hi48 HPx.out).2
          have L6 : (l ++ [([], ox)]).length = k + 1 := by have := HLL.out; simp; omega
          have N7 := N6.out
          rw [← nms_snoc_no hi48 l ([], ox)] at N7
          clear hAb hA2X hA2O hA2R hXO hG6 hNX hw4 o45 f45 o4k f4k
          go_wp2_with fail
          exact ⟨⟨k + 1, A1, m1, d1, A4, m4, d4, l ++ [([], ox)], sx, by omega, by go_num, L6, B6.out, R6.out, D6.out, N7, K6.out, E6, G6, P6⟩, by simp [intOf]; omega⟩
      | error ee =>
        have hf := HPRG.out.fin (hd := ([], [])) (.inr ⟨_, rfl⟩) _ HGETO.out.symm
        have HP : Hid (RdPost (n + 1) (.ok cur) (mkO id ([], []) l) _) := ⟨fun cu e r hr => by injection e with e; subst e; subst hr; exact hf, fun e h => by cases h⟩
        clear hf
        have HF : Hid (OptR (fun b => w.heap.size < b) wr 9223372036854775807 (n + 1) A1 m1 d1 A2 m2 d2 (mkO id ([], []) l)) := ⟨hid, hSPL, hNML, (hN.arr (by decide)).mono fun b h _ => by omega, ((hK.arr (by decide)).mono fun b h _ => by omega).imp fun _ _ _ h => h.mono fun b h _ => by (have := h.1; omega)⟩
        clear hN hK

        have hAl := hA.lt
        have hOl := hO.lt
        have hRl := hR.lt
        have o0 := hO.c0
        have o1 := hO.c1
        have o2 := hO.c2
        have o3 := hO.c3
        have o4 := hO.c4
        have HA := Lib.hid hA
        obtain ⟨AX2, nX2, cX2, x0, x1, x2, x3, x4⟩ := hA
        simp only [werr_error] at x1
        have hne : ee ≠ 0 := x4 ee rfl
        clear x0 x2 x3 x4

        have r0 := hR.c0
        have r1 := hR.c1
        have r2 := hR.c2
        have r3 := hR.c3
        have r4 := hR.c4
        have f0 := hR.fr 0
        have f1 := hR.fr 1
        have f2 := hR.fr 2
        have f3 := hR.fr 3
        have f4 := hR.fr 4
        clear hO hR
        go_wp2_with fail
        refine bodyPost_ret (v := .agg #[.int .u16 (id : Nat), .string (str []), .string (str []), .slice A1 m1 d1, .slice A2 m2 d2]) (by simp [results, Tryd.results79, go_sem, r0, r1, r2, r3, r4]) rfl ?_
        have hg5 := grow5 wr w.heap.size (.int .u16 (id : Nat)) (.string (str [])) (.string (str [])) (.slice A1 m1 d1) (.slice A2 m2 d2)
        have HF5 := (HF.out.grown hg5 (fun b (h : _ < b) e => by injection e with e; omega)).mono (S' := fun b => w.heap.size ≤ b) fun b (h : _ < b) _ => by omega
        have HA5 := HA.out.grown hg5 (fun e => by injection e with e; omega) (fun b h e => by injection e with e; have := HS.out b h; omega)
        have HG5 : w.grownBy _ (some X) := grow_seq hgr hg5 fun j e => by (injection e with e; left; omega)
        first
          | exact ⟨_, _, _, _, _, _, (mkO id ([], []) l), _, rfl, HF5, HA5, HG5, HP.out⟩
          | exact ⟨_, _, _, _, _, _, (mkO id ([], []) l), rfl, HF5, _, HA5, HG5, HP.out⟩
    · obtain hkm : k = m := by omega
      have HKM := Lib.hid hkm; clear hkm
      have hf := HPRG.out.fin (hd := ([], [])) (.inl HKM.out) _ HGETO.out.symm
      have HP : Hid (RdPost (n + 1) (.ok cur) (mkO id ([], []) l) _) := ⟨fun cu e r hr => by injection e with e; subst e; subst hr; exact hf, fun e h => by cases h⟩
      clear hf
      have HF : Hid (OptR (fun b => w.heap.size < b) wr 9223372036854775807 (n + 1) A1 m1 d1 A2 m2 d2 (mkO id ([], []) l)) := ⟨hid, hSPL, hNML, (hN.arr (by decide)).mono fun b h _ => by omega, ((hK.arr (by decide)).mono fun b h _ => by omega).imp fun _ _ _ h => h.mono fun b h _ => by (have := h.1; omega)⟩
      clear hN hK

      have hAl := hA.lt
      have hOl := hO.lt
      have hRl := hR.lt
      have o0 := hO.c0
      have o1 := hO.c1
      have o2 := hO.c2
      have o3 := hO.c3
      have o4 := hO.c4
      have HA := Lib.hid hA
      obtain ⟨AX2, nX2, cX2, x0, x1, x2, x3, x4⟩ := hA
      skip
      clear x0 x2 x3 x4

      have r0 := hR.c0
      have r1 := hR.c1
      have r2 := hR.c2
      have r3 := hR.c3
      have r4 := hR.c4
      have f0 := hR.fr 0
      have f1 := hR.fr 1
      have f2 := hR.fr 2
      have f3 := hR.fr 3
      have f4 := hR.fr 4
      clear hO hR
      go_wp2_with fail
      refine bodyPost_ret (v := .agg #[.int .u16 (id : Nat), .string (str []), .string (str []), .slice A1 m1 d1, .slice A2 m2 d2]) (by simp [results, Tryd.results79, go_sem, r0, r1, r2, r3, r4]) rfl ?_
      have hg5 := grow5 wr w.heap.size (.int .u16 (id : Nat)) (.string (str [])) (.string (str [])) (.slice A1 m1 d1) (.slice A2 m2 d2)
      have HF5 := (HF.out.grown hg5 (fun b (h : _ < b) e => by injection e with e; omega)).mono (S' := fun b => w.heap.size ≤ b) fun b (h : _ < b) _ => by omega
      have HA5 := HA.out.grown hg5 (fun e => by injection e with e; omega) (fun b h e => by injection e with e; have := HS.out b h; omega)
      have HG5 : w.grownBy _ (some X) := grow_seq hgr hg5 fun j e => by (injection e with e; left; omega)
      first
        | exact ⟨_, _, _, _, _, _, (mkO id ([], []) l), _, rfl, HF5, HA5, HG5, HP.out⟩
        | exact ⟨_, _, _, _, _, _, (mkO id ([], []) l), rfl, HF5, _, HA5, HG5, HP.out⟩
end Go.Proofs.Sb

/- Walk over option.reader's option: types of one's own. Conditions: the table of names reads as it was laid. (written by gen_optread.py) -/
namespace Go.Proofs.Sb
open Go.RowKit _root_.Sb

set_option maxHeartbeats 8000000 in
set_option maxRecDepth 100000 in
theorem readO_48 {n : Nat} {S : Nat → Prop} {w : World} {X : Nat} {deep : Int} (ih : ReadO n) {cur rs : B} (hrd : RdAt S w X (.ok cur)) (hS : ∀ b, S b → b < X) (hX : 0 < X) (hpl : Pl w) (hdn : deep + n = 20) (hd1 : 1 ≤ deep) (hgn : getN 2 cur = .ok (48, rs)) :
    Calls Tryd.prog 79 #[.pointer (some ⟨X, 0, none⟩), .int .i64 deep] w fun e w' => ∃ A1 n1 c1 A2 n2 c2 o s', e = .returned (optV o A1 n1 c1 A2 n2 c2) ∧ OptR (fun b => w.heap.size ≤ b) w' 9223372036854775807 (n + 1) A1 n1 c1 A2 n2 c2 o ∧ RdAt S w' X s' ∧ w.grownBy w' (some X) ∧ RdPost (n + 1) (.ok cur) o s' := by
  have hXlt := hrd.lt
  have HRD := Lib.hid hrd
  have HS := Lib.hid hS; clear hS
  have HPL := Lib.hid hpl; clear hpl
  have hX1 : ∀ b, S b → b ≠ X := fun b h e => by have := HS.out b h; omega
  have HX1 := Lib.hid hX1; clear hX1
  obtain ⟨AX, nX, cX, g0, g1, g2, g3, g4⟩ := hrd
  have G2 := Lib.hid g2
  have f1 := g2 1
  clear g2 g3
  go_enter Tryd.func79, Tryd.ntmps79
  have hid : 48 < 65536 := by decide
  have HG := Lib.hid hgn; clear hgn
  simp only [werr_ok] at g1
  clear g4
  go_wp2_with fail

  refine (rshort_any (HRD.out.after (by repeat (first | exact Below.refl _ _ | assumption | refine Below.drew ?_ | refine below_drewN ?_ _ | refine Below.alloc ?_ (by first | (simp; done) | omega | (simp; omega)) _ | refine Below.setCell ?_ (by first | (simp; done) | omega | (simp; omega)) _))) HX1.out).mono ?_
  rintro e1 w1 ⟨rfl, ha1, hg1⟩
  rw [shortR_ok HG.out] at ha1
  rw [shortV_ok HG.out]
  simp only [rval_ok] at ha1 ⊢
  have hgw : w.grownBy w1 (some X) := grow_seq (grow_of_below (row := some X) (by repeat (first | exact Below.refl _ _ | assumption | refine Below.drew ?_ | refine below_drewN ?_ _ | refine Below.alloc ?_ (by first | (simp; done) | omega | (simp; omega)) _ | refine Below.setCell ?_ (by first | (simp; done) | omega | (simp; omega)) _))) hg1 fun j e => .inr e
  have hR1 : BoxAt w1 w.heap.size (.int .u16 0) (.string (str [])) (.string (str [])) (.slice none 0 0) (.slice none 0 0) := (box_new w _ _ _ _ _ _).grown hg1 (fun e => by injection e with e; omega)
  have hz1 : w.heap.size < w1.heap.size := hR1.lt
  have HR1 := Lib.hid hR1; clear hR1
  have HA1 := Lib.hid ha1; clear ha1
  clear g0 g1 f1
  go_wp2_with fail
  refine (kids_any (id := 48) hid ((HPL.out.grown hgw (fun e => by injection e with e; omega)).after (by repeat (first | exact Below.refl _ _ | assumption | refine Below.drew ?_ | refine below_drewN ?_ _ | refine Below.alloc ?_ (by first | (simp; done) | omega | (simp; omega)) _ | refine Below.setCell ?_ (by first | (simp; done) | omega | (simp; omega)) _)))).mono ?_
  rintro e2 w2 ⟨rfl, hb2⟩
  have hO2 : BoxAt w2 w1.heap.size (.int .u16 (48 : Nat)) (.string (str [])) (.string (str [])) (.slice none 0 0) (.slice none 0 0) := (box_new w1 _ _ _ _ _ _).after hb2
  have hz2 : w1.heap.size < w2.heap.size := hO2.lt
  have hb12 : Below w1.heap.size w1 w2 := Below.trans (by repeat (first | exact Below.refl _ _ | assumption | refine Below.drew ?_ | refine below_drewN ?_ _ | refine Below.alloc ?_ (by first | (simp; done) | omega | (simp; omega)) _ | refine Below.setCell ?_ (by first | (simp; done) | omega | (simp; omega)) _)) (hb2.mono (by simp))
  have hA2 : RdAt S w2 X (.ok rs) := HA1.out.after hb12
  have HA2 := Lib.hid hA2
  have hR2 : BoxAt w2 w.heap.size (.int .u16 0) (.string (str [])) (.string (str [])) (.slice none 0 0) (.slice none 0 0) := HR1.out.after hb12
  have HR2 := Lib.hid hR2; clear hR2
  have hgw2 : w.grownBy w2 (some X) := grow_seq hgw (grow_of_below (row := some X) hb12) fun j e => .inr e
  obtain ⟨A2, n2, c2, e0, e1, e2, e3, e4⟩ := hA2
  have o0 := hO2.c0
  have HO2 := Lib.hid hO2; clear hO2
  simp only [werr_ok] at e1
  have e2f := e2 1
  clear e2 e3 e4
  have hkr := kn_range (48)

  clear hkr
  rw [show knP 48 = -1 by decide]
  have hSPL : (textV (.ok rs)).length ≤ 9223372036854775807 := by have := textV_len (.ok rs); omega
  have hNML : (textV (textR (.ok rs))).length ≤ 9223372036854775807 := by have := textV_len (textR (.ok rs)); omega
  go_wp2_with fail
  refine (rdtext_any HA2.out HX1.out).mono ?_
  rintro e3 w3 ⟨rfl, ha3, hg3⟩
  have hO3 := HO2.out.grown hg3 (fun e => by injection e with e; omega)
  have hz3 := hO3.lt
  have o1 := hO3.c1
  have oF := hO3.fr 1
  have HO3 := Lib.hid (hO3.set1 (.string (str (textV (.ok rs))))); clear hO3
  have HA3 := Lib.hid (ha3.set (j := w1.heap.size) (i := 1) (by omega) (fun b h => by have := HS.out b h; omega) (.string (str (textV (.ok rs))))); clear ha3
  have hgw3 : w.grownBy (w3.setCell ⟨w1.heap.size, 1, none⟩ (.string (str (textV (.ok rs))))) (some X) := grow_seq (grow_seq hgw2 hg3 fun j e => .inr e) (grow_setCell _ _ _ _) fun j e => by (injection e with e; left; omega)
  have HR3 := Lib.hid ((HR2.out.grown hg3 (fun e => by injection e with e; omega)).setOther (j := w1.heap.size) (i := 1) (by omega) (.string (str (textV (.ok rs)))))
  clear o0 e0 e1 e2f
  go_wp2_with fail
  refine (rdtext_any HA3.out HX1.out).mono ?_
  rintro e4 w4 ⟨rfl, ha4, hg4⟩
  have hO4 := HO3.out.grown hg4 (fun e => by injection e with e; omega)
  have hz4 := hO4.lt
  have o2 := hO4.c2
  have oF2 := hO4.fr 2
  have HO4 := Lib.hid (hO4.set2 (.string (str (textV (textR (.ok rs)))))); clear hO4
  have HA4 := Lib.hid (ha4.set (j := w1.heap.size) (i := 2) (by omega) (fun b h => by have := HS.out b h; omega) (.string (str (textV (textR (.ok rs)))))); clear ha4
  have hgw4 : w.grownBy (w4.setCell ⟨w1.heap.size, 2, none⟩ (.string (str (textV (textR (.ok rs)))))) (some X) := grow_seq (grow_seq hgw3 hg4 fun j e => .inr e) (grow_setCell _ _ _ _) fun j e => by (injection e with e; left; omega)
  have HR4 := Lib.hid ((HR3.out.grown hg4 (fun e => by injection e with e; omega)).setOther (j := w1.heap.size) (i := 2) (by omega) (.string (str (textV (textR (.ok rs))))))
  clear o1 oF
  go_wp2_with fail
  refine (rshort_any HA4.out HX1.out).mono ?_
  rintro e5 w5 ⟨rfl, ha5, hg5⟩
  have hO5 := HO4.out.grown hg5 (fun e => by injection e with e; omega)
  have hz5 := hO5.lt
  have HO5 := Lib.hid hO5; clear hO5
  have HA5 := Lib.hid ha5; clear ha5
  have hgw5 : w.grownBy w5 (some X) := grow_seq hgw4 hg5 fun j e => .inr e
  have HR5 := Lib.hid (HR4.out.grown hg5 (fun e => by injection e with e; omega))
  clear o2 oF2
  have hmlt := shortV_lt (textR (textR (.ok rs)))
  have HGO := Lib.hid (getO_48 (n := n) HG.out)
  generalize textV (.ok rs) = sp at *
  generalize textV (textR (.ok rs)) = tv at *
  generalize shortV (textR (textR (.ok rs))) = m at *
  have HM : Hid (m ≤ 65535) := by (have h1 : m ≤ 65535 := by omega); exact h1
  go_wp2_with fail

  have hGETO : getO (n + 1) cur = finO n 48 (m) (sp, tv) (shortR (textR (textR (.ok rs)))) := HGO.out
  have HGETO := Lib.hid hGETO; clear hGETO
  go_loopw [7] (fun i wr => ∃ (k : Nat), ∃ A1 m1 d1 A2 m2 d2 l st, k ≤ m ∧ i = .int .i64 (k : Nat) ∧ l.length = k ∧ BoxAt wr w1.heap.size (.int .u16 (48 : Nat)) (.string (str sp)) (.string (str tv)) (.slice A1 m1 d1) (.slice A2 m2 d2) ∧ BoxAt wr w.heap.size (.int .u16 0) (.string (str [])) (.string (str [])) (.slice none 0 0) (.slice none 0 0) ∧ RdAt S wr X st ∧ OwnA 9 1 strP (w1.heap.size + 1) wr A1 m1 d1 (nmsO 48 l) ∧ OwnA 62 5 (optD (Sel w1.heap.size A1 A2) wr 9223372036854775807 (n + 1)) (w1.heap.size + 1) wr A2 m2 d2 (l.map (·.2)) ∧ Hid (∀ b, A1.map (·.block) = some b → A2.map (·.block) ≠ some b) ∧ w.grownBy wr (some X) ∧ Hid (Prg n 48 (m) (shortR (textR (textR (.ok rs)))) k l st)) (fun i _ => m - (intOf i).toNat)
  case atStart => exact ⟨0, none, 0, 0, none, 0, 0, [], _, by omega, rfl, rfl, HO5.out, HR5.out, HA5.out, (by (unfold nmsO; split <;> exact OwnA.nil)), OwnA.nil, (fun b h => by cases h), hgw5, Prg.zero _ _ _ _⟩
  case round =>
    obtain ⟨k, A1, m1, d1, A2, m2, d2, l, st, hk, rfl, hll, hO, hR, hA, hN, hK, HNE, hgr, HPRG⟩ := hrel
    have HLL := Lib.hid hll; clear hll
    have hzr := hgr.size
    have hNb : ∀ b, A1.map (·.block) = some b → w1.heap.size < b ∧ b < wr.heap.size := fun b e => by have := hN.block b e; omega
    have HNB := Lib.hid hNb; clear hNb
    have hKb : ∀ b, A2.map (·.block) = some b → w1.heap.size < b ∧ b < wr.heap.size := fun b e => by have := hK.block b e; omega
    have HKB := Lib.hid hKb; clear hKb
    by_cases hlt : k < m
    · cases st with
      | ok rs2 =>
        have hml := hK.len (by decide)
        have hmk : m2 ≤ 65536 := by have := HLL.out; rw [List.length_map] at hml; have := HM.out; omega
        clear hml
        have hmn := hN.len (by decide)
        have hmn2 : m1 ≤ 65536 := by have := HLL.out; have e : (nmsO 48 l).length = l.length := (by unfold nmsO; rw [if_pos rfl, List.length_map]); have := HM.out; omega
        clear hmn

        have hAl := hA.lt
        have hOl := hO.lt
        have hRl := hR.lt
        have o0 := hO.c0
        have o1 := hO.c1
        have o2 := hO.c2
        have o3 := hO.c3
        have o4 := hO.c4
        have HA := Lib.hid hA
        obtain ⟨AX2, nX2, cX2, x0, x1, x2, x3, x4⟩ := hA
        simp only [werr_ok] at x1
        clear x0 x2 x3 x4

        have of3 := hO.fr 3
        have of4 := hO.fr 4
        have HO := Lib.hid hO; clear hO
        have HR := Lib.hid hR; clear hR
        have HN := Lib.hid hN; clear hN
        have HK := Lib.hid hK; clear hK
        go_wp2_with fail
        refine regt_start (by kernel_rfl) ?_
        (refine regt_take 0 (v := ?_) (by rfl) (by kernel_rfl) (by kernel_rfl) (by kernel_rfl) (by exact fun _ _ _ h => h) (by rfl) ?_ ?_; rotate_left; focus (intro w hSw; go_simp; try with_reducible rfl))
        simp only [Act.put, List.setIfInBounds_toArray, List.set_cons_zero, List.set_cons_succ]
        (refine regt_take 2 (v := ?_) (by rfl) (by kernel_rfl) (by kernel_rfl) (by kernel_rfl) (by exact fun _ _ _ h => h) (by rfl) ?_ ?_; rotate_left; focus (intro w hSw; go_simp; try with_reducible rfl))
        simp only [Act.put, List.setIfInBounds_toArray, List.set_cons_zero, List.set_cons_succ]
        refine regt_two 1 3 (by kernel_rfl) (by rfl) (by rfl) (fun K hK => ?_) (fun K hK => ?_)
        focus
          go_simp
          refine hK.out _ _ (trivial) ?_
          clear hK K
          try simp only [Act.put, List.setIfInBounds_toArray, List.set_cons_zero, List.set_cons_succ]
          refine regt_call 3 (by kernel_rfl) (by rfl) (fun K hK => ?_)
          go_simp
          go_at_call 90; refine (rdtext_any (HA.out.after (by repeat (first | exact Below.refl _ _ | assumption | refine Below.drew ?_ | refine below_drewN ?_ _ | refine Below.alloc ?_ (by first | (simp; done) | omega | (simp; omega)) _ | refine Below.setCell ?_ (by first | (simp; done) | omega | (simp; omega)) _))) HX1.out).mono ?_; rintro et wt ⟨rfl, hAt, hgt⟩; have hzt := hgt.size; simp at hzt; have hlt1 : w1.heap.size < wt.heap.size := (by omega); have o3t : wt.cell? ⟨w1.heap.size, 3, none⟩ = some (.slice A1 m1 d1) := gcx hgt (fun e => by injection e with e; omega) (by go_simp); have f3t : wt.frozen? ⟨w1.heap.size, 3, none⟩ = false := gfroz hgt (fun e => by injection e with e; omega) (by simp; omega) (by go_simp); have HAt := Lib.hid hAt; clear hAt; have HNt := Lib.hid ((HN.out.after (Below.refl _ wr).drew).grown hgt (fun b e e2 => by injection e2 with e2; have := HNB.out b e; omega))
          refine hK.out _ _ (trivial) ?_
          clear hK K
          try simp only [Act.put, List.setIfInBounds_toArray, List.set_cons_zero, List.set_cons_succ]
          refine regt_call 4 (by kernel_rfl) (by rfl) (fun K hK => ?_)
          go_simp
          refine hK.out _ _ (trivial) ?_
          clear hK K
          try simp only [Act.put, List.setIfInBounds_toArray, List.set_cons_zero, List.set_cons_succ]
          refine regt_call 5 (by kernel_rfl) (by rfl) (fun K hK => ?_)
          refine step_appA rfl tyStr _ _ rfl (w1.heap.size + 1) _ _ _ (nmsO 48 l) rfl (HNt.out.after (by repeat (first | exact Below.refl _ _ | assumption | refine Below.drew ?_ | refine below_drewN ?_ _ | refine Below.alloc ?_ (by first | (simp; done) | omega | (simp; omega)) _ | refine Below.setCell ?_ (by first | (simp; done) | omega | (simp; omega)) _))) _ _ _ _ [textV (.ok rs2)] rfl (arr_lit (P := strP) _ #[.string (str (textV (.ok rs2)))] (textV (.ok rs2)) rfl ⟨rfl, by have := textV_len (.ok rs2); omega⟩ (by simp)) strP_one (fun _ _ _ h => h) (by omega) (by unfold maxLen; omega) (by simp; omega) ?_; intro A7 m7 d7 w7 hown7 hg7 hw7; have o37 : w7.cell? ⟨w1.heap.size, 3, none⟩ = some (.slice A1 m1 d1) := gcx hg7 (fun e => by have := HNB.out _ e; omega) (by go_simp); have f37 : w7.frozen? ⟨w1.heap.size, 3, none⟩ = false := gfroz hg7 (fun e => by have := HNB.out _ e.symm; omega) (by simp; omega) (by go_simp); have hz7 := hg7.size; simp at hz7; have HO7 := Lib.hid hown7; clear hown7
          refine hK.out _ _ (trivial) ?_
          clear hK K
          try simp only [Act.put, List.setIfInBounds_toArray, List.set_cons_zero, List.set_cons_succ]
          (refine regt_take 6 (v := ?_) (by rfl) (by kernel_rfl) (by kernel_rfl) (by kernel_rfl) (by exact fun _ _ _ h => h) (by rfl) ?_ ?_; rotate_left; focus (intro w hSw; go_simp; try with_reducible rfl))
          simp only [Act.put, List.setIfInBounds_toArray, List.set_cons_zero, List.set_cons_succ]
          refine regt_call 7 (by kernel_rfl) (by rfl) (fun K hK => ?_)
          go_simp
          refine hK.out _ _ (trivial) ?_
          clear hK K
          try simp only [Act.put, List.setIfInBounds_toArray, List.set_cons_zero, List.set_cons_succ]
          refine wpAnyH_done (by kernel_rfl) ?_ _
        rotate_left 1
        focus
          go_simp
          go_at_call 90; refine (rdtext_any (HA.out.after (by repeat (first | exact Below.refl _ _ | assumption | refine Below.drew ?_ | refine below_drewN ?_ _ | refine Below.alloc ?_ (by first | (simp; done) | omega | (simp; omega)) _ | refine Below.setCell ?_ (by first | (simp; done) | omega | (simp; omega)) _))) HX1.out).mono ?_; rintro et wt ⟨rfl, hAt, hgt⟩; have hzt := hgt.size; simp at hzt; have hlt1 : w1.heap.size < wt.heap.size := (by omega); have o3t : wt.cell? ⟨w1.heap.size, 3, none⟩ = some (.slice A1 m1 d1) := gcx hgt (fun e => by injection e with e; omega) (by go_simp); have f3t : wt.frozen? ⟨w1.heap.size, 3, none⟩ = false := gfroz hgt (fun e => by injection e with e; omega) (by simp; omega) (by go_simp); have HAt := Lib.hid hAt; clear hAt; have HNt := Lib.hid ((HN.out.after (Below.refl _ wr).drew).grown hgt (fun b e e2 => by injection e2 with e2; have := HNB.out b e; omega))
          refine hK.out _ _ (trivial) ?_
          clear hK K
          try simp only [Act.put, List.setIfInBounds_toArray, List.set_cons_zero, List.set_cons_succ]
          refine regt_two 1 4 (by kernel_rfl) (by rfl) (by rfl) (fun K hK => ?_) (fun K hK => ?_)
          focus
            go_simp
            refine hK.out _ _ (trivial) ?_
            clear hK K
            try simp only [Act.put, List.setIfInBounds_toArray, List.set_cons_zero, List.set_cons_succ]
            refine regt_call 4 (by kernel_rfl) (by rfl) (fun K hK => ?_)
            go_simp
            refine hK.out _ _ (trivial) ?_
            clear hK K
            try simp only [Act.put, List.setIfInBounds_toArray, List.set_cons_zero, List.set_cons_succ]
            refine regt_call 5 (by kernel_rfl) (by rfl) (fun K hK => ?_)
            refine step_appA rfl tyStr _ _ rfl (w1.heap.size + 1) _ _ _ (nmsO 48 l) rfl (HNt.out.after (by repeat (first | exact Below.refl _ _ | assumption | refine Below.drew ?_ | refine below_drewN ?_ _ | refine Below.alloc ?_ (by first | (simp; done) | omega | (simp; omega)) _ | refine Below.setCell ?_ (by first | (simp; done) | omega | (simp; omega)) _))) _ _ _ _ [textV (.ok rs2)] rfl (arr_lit (P := strP) _ #[.string (str (textV (.ok rs2)))] (textV (.ok rs2)) rfl ⟨rfl, by have := textV_len (.ok rs2); omega⟩ (by simp)) strP_one (fun _ _ _ h => h) (by omega) (by unfold maxLen; omega) (by simp; omega) ?_; intro A7 m7 d7 w7 hown7 hg7 hw7; have o37 : w7.cell? ⟨w1.heap.size, 3, none⟩ = some (.slice A1 m1 d1) := gcx hg7 (fun e => by have := HNB.out _ e; omega) (by go_simp); have f37 : w7.frozen? ⟨w1.heap.size, 3, none⟩ = false := gfroz hg7 (fun e => by have := HNB.out _ e.symm; omega) (by simp; omega) (by go_simp); have hz7 := hg7.size; simp at hz7; have HO7 := Lib.hid hown7; clear hown7
            refine hK.out _ _ (trivial) ?_
            clear hK K
            try simp only [Act.put, List.setIfInBounds_toArray, List.set_cons_zero, List.set_cons_succ]
            (refine regt_take 6 (v := ?_) (by rfl) (by kernel_rfl) (by kernel_rfl) (by kernel_rfl) (by exact fun _ _ _ h => h) (by rfl) ?_ ?_; rotate_left; focus (intro w hSw; go_simp; try with_reducible rfl))
            simp only [Act.put, List.setIfInBounds_toArray, List.set_cons_zero, List.set_cons_succ]
            refine regt_call 7 (by kernel_rfl) (by rfl) (fun K hK => ?_)
            go_simp
            refine hK.out _ _ (trivial) ?_
            clear hK K
            try simp only [Act.put, List.setIfInBounds_toArray, List.set_cons_zero, List.set_cons_succ]
            refine wpAnyH_done (by kernel_rfl) ?_ _
          rotate_left 1
          focus
            go_simp
            refine hK.out _ _ (trivial) ?_
            clear hK K
            try simp only [Act.put, List.setIfInBounds_toArray, List.set_cons_zero, List.set_cons_succ]
            refine regt_call 1 (by kernel_rfl) (by rfl) (fun K hK => ?_)
            go_simp
            refine hK.out _ _ (trivial) ?_
            clear hK K
            try simp only [Act.put, List.setIfInBounds_toArray, List.set_cons_zero, List.set_cons_succ]
            refine regt_call 5 (by kernel_rfl) (by rfl) (fun K hK => ?_)
            refine step_appA rfl tyStr _ _ rfl (w1.heap.size + 1) _ _ _ (nmsO 48 l) rfl (HNt.out.after (by repeat (first | exact Below.refl _ _ | assumption | refine Below.drew ?_ | refine below_drewN ?_ _ | refine Below.alloc ?_ (by first | (simp; done) | omega | (simp; omega)) _ | refine Below.setCell ?_ (by first | (simp; done) | omega | (simp; omega)) _))) _ _ _ _ [textV (.ok rs2)] rfl (arr_lit (P := strP) _ #[.string (str (textV (.ok rs2)))] (textV (.ok rs2)) rfl ⟨rfl, by have := textV_len (.ok rs2); omega⟩ (by simp)) strP_one (fun _ _ _ h => h) (by omega) (by unfold maxLen; omega) (by simp; omega) ?_; intro A7 m7 d7 w7 hown7 hg7 hw7; have o37 : w7.cell? ⟨w1.heap.size, 3, none⟩ = some (.slice A1 m1 d1) := gcx hg7 (fun e => by have := HNB.out _ e; omega) (by go_simp); have f37 : w7.frozen? ⟨w1.heap.size, 3, none⟩ = false := gfroz hg7 (fun e => by have := HNB.out _ e.symm; omega) (by simp; omega) (by go_simp); have hz7 := hg7.size; simp at hz7; have HO7 := Lib.hid hown7; clear hown7
            refine hK.out _ _ (trivial) ?_
            clear hK K
            try simp only [Act.put, List.setIfInBounds_toArray, List.set_cons_zero, List.set_cons_succ]
            (refine regt_take 6 (v := ?_) (by rfl) (by kernel_rfl) (by kernel_rfl) (by kernel_rfl) (by exact fun _ _ _ h => h) (by rfl) ?_ ?_; rotate_left; focus (intro w hSw; go_simp; try with_reducible rfl))
            simp only [Act.put, List.setIfInBounds_toArray, List.set_cons_zero, List.set_cons_succ]
            refine regt_call 7 (by kernel_rfl) (by rfl) (fun K hK => ?_)
            go_simp
            refine hK.out _ _ (trivial) ?_
            clear hK K
            try simp only [Act.put, List.setIfInBounds_toArray, List.set_cons_zero, List.set_cons_succ]
            refine wpAnyH_done (by kernel_rfl) ?_ _
        all_goals
          have hAt7 : wt.grownBy w7 (A1.map (·.block)) := grow_seq (grow_of_below (row := A1.map (·.block)) (by repeat (first | exact Below.refl _ _ | assumption | refine Below.drew ?_ | refine below_drewN ?_ _ | refine Below.alloc ?_ (by first | (simp; done) | omega | (simp; omega)) _ | refine Below.setCell ?_ (by first | (simp; done) | omega | (simp; omega)) _))) hg7 fun j e => .inr e
          have hA1X : A1.map (·.block) ≠ some X := fun e => by have := HNB.out _ e; omega
          have hA1O : A1.map (·.block) ≠ some w1.heap.size := fun e => by have := HNB.out _ e; omega
          have hA1R : A1.map (·.block) ≠ some w.heap.size := fun e => by have := HNB.out _ e; omega
          have hG9 := grow_setCell w7 w1.heap.size 3 (.slice A7 m7 d7)
          have HO9 := Lib.hid ((((HO.out.after (Below.refl _ wr).drew).grown hgt (fun e => by injection e with e; omega)).grown hAt7 hA1O).set3 (.slice A7 m7 d7))
          have HR9 := Lib.hid ((((HR.out.after (Below.refl _ wr).drew).grown hgt (fun e => by injection e with e; omega)).grown hAt7 hA1R).setOther (j := w1.heap.size) (i := 3) (by omega) (.slice A7 m7 d7))
          have HA9 := Lib.hid ((HAt.out.grown hAt7 hA1X (fun b h e => by have := HNB.out b e; have := HS.out b h; omega)).set (j := w1.heap.size) (i := 3) (by omega) (fun b h => by have := HS.out b h; omega) (.slice A7 m7 d7))
          have hN7b : ∀ b, A7.map (·.block) = some b → w1.heap.size < b ∧ b < w7.heap.size ∧ A2.map (·.block) ≠ some b := fun b e => ⟨by have := (HO7.out.block b e).1; omega, (HO7.out.block b e).2, fun e2 => by rcases hw7 b e with h | h; exact HNE.out b h e2; have := (HKB.out b e2).2; simp at h; omega⟩
          have HN9 := Lib.hid (HO7.out.grown hG9 (fun b e e2 => by injection e2 with e2; have h := (hN7b b e).1; omega))
          have HK9 : Hid (OwnA 62 5 (optD (Sel w1.heap.size A7 A2) (w7.setCell ⟨w1.heap.size, 3, none⟩ (.slice A7 m7 d7)) 9223372036854775807 (n + 1)) (w1.heap.size + 1) (w7.setCell ⟨w1.heap.size, 3, none⟩ (.slice A7 m7 d7)) A2 m2 d2 (l.map (·.2))) :=
            ((((HK.out.after (Below.refl _ wr).drew).grown hgt (fun b e e2 => by injection e2 with e2; have := HKB.out b e; omega)).grown hAt7 (fun b e e2 => HNE.out b e2.symm e)).grown hG9 (fun b e e2 => by injection e2 with e2; have := HKB.out b e; omega)).imp fun x _ v h => (((((h.mono (S' := fun b => Sel w1.heap.size A1 A2 b ∧ b < wr.heap.size) fun b h1 h2 => ⟨h1, h2⟩).keep (Below.refl wr.heap.size wr).drew.size fun b _ hb => (Below.refl wr.heap.size wr).drew.block b hb).keep hgt.size fun b hs hb => hgt.block b hb (fun e => by injection e with e; have := hs.1.1; omega)).keep hAt7.size fun b hs hb => hAt7.block b hb (fun e => hs.1.2.1 e.symm)).keep hG9.size fun b hs hb => hG9.block b hb (fun e => by injection e with e; have := hs.1.1; omega)).mono (S' := Sel w1.heap.size A7 A2) fun b hs _ => ⟨hs.1.1, fun e => by rcases hw7 b e with h1 | h1; exact hs.1.2.1 h1; simp at h1; have := hs.2; omega, hs.1.2.2⟩
          have hg9 : w.grownBy (w7.setCell ⟨w1.heap.size, 3, none⟩ (.slice A7 m7 d7)) (some X) := grow_seq (grow_seq (grow_seq (grow_seq hgr (grow_of_below (row := some X) (Below.refl _ wr).drew) fun j e => .inr e) hgt fun j e => .inr e) hAt7 (fun j e => by have := HNB.out j e; left; omega)) hG9 (fun j e => by injection e with e; left; omega)
          have hz97 : (w7.setCell ⟨w1.heap.size, 3, none⟩ (.slice A7 m7 d7)).heap.size = w7.heap.size := by simp
          have hz9 : wr.heap.size ≤ (w7.setCell ⟨w1.heap.size, 3, none⟩ (.slice A7 m7 d7)).heap.size := by simp; omega
          have HN7B : Hid (∀ b, A7.map (·.block) = some b → w1.heap.size < b ∧ b < (w7.setCell ⟨w1.heap.size, 3, none⟩ (.slice A7 m7 d7)).heap.size ∧ A2.map (·.block) ≠ some b) := fun b e => by rw [hz97]; exact hN7b b e
          have q0 := HO9.out.c0
          have q4 := HO9.out.c4
          have qf4 := HO9.out.fr 4
          have hl9 : w1.heap.size < (w7.setCell ⟨w1.heap.size, 3, none⟩ (.slice A7 m7 d7)).heap.size := by simp; omega
          clear hAt7 hA1X hA1O hA1R hG9 hN7b hz97 o37 f37 o3t f3t o0 o1 o2 o3 o4 of3 of4 x1
          clear hw7 hg7 hz7
          generalize hw9 : w7.setCell ⟨w1.heap.size, 3, none⟩ (.slice A7 m7 d7) = w9 at *
          clear hw9
          go_wp2_with fail
          refine regt_start (by kernel_rfl) ?_
          (refine regt_take 0 (v := ?_) (by rfl) (by kernel_rfl) (by kernel_rfl) (by kernel_rfl) (by exact fun _ _ _ h => h) (by rfl) ?_ ?_; rotate_left; focus (intro w hSw; go_simp; try with_reducible rfl))
          simp only [Act.put, List.setIfInBounds_toArray, List.set_cons_zero, List.set_cons_succ]
          (refine regt_take 2 (v := ?_) (by rfl) (by kernel_rfl) (by kernel_rfl) (by kernel_rfl) (by exact fun _ _ _ h => h) (by rfl) ?_ ?_; rotate_left; focus (intro w hSw; go_simp; try with_reducible rfl))
          simp only [Act.put, List.setIfInBounds_toArray, List.set_cons_zero, List.set_cons_succ]
          (refine regt_take 3 (v := ?_) (by rfl) (by kernel_rfl) (by kernel_rfl) (by kernel_rfl) (by exact fun _ _ _ h => h) (by rfl) ?_ ?_; rotate_left; focus (intro w hSw; go_simp; try with_reducible rfl))
          simp only [Act.put, List.setIfInBounds_toArray, List.set_cons_zero, List.set_cons_succ]
          (refine regt_take 4 (v := ?_) (by rfl) (by kernel_rfl) (by kernel_rfl) (by kernel_rfl) (by exact fun _ _ _ h => h) (by rfl) ?_ ?_; rotate_left; focus (intro w hSw; go_simp; try with_reducible rfl))
          simp only [Act.put, List.setIfInBounds_toArray, List.set_cons_zero, List.set_cons_succ]
          refine regt_two 1 5 (by kernel_rfl) (by rfl) (by rfl) (fun K hK => ?_) (fun K hK => ?_)
          focus
            go_simp
            refine hK.out _ _ (trivial) ?_
            clear hK K
            try simp only [Act.put, List.setIfInBounds_toArray, List.set_cons_zero, List.set_cons_succ]
            refine regt_call 5 (by kernel_rfl) (by rfl) (fun K hK => ?_)
            go_simp
            go_at_call 79; have hwr : IntKind.i64.wrap (deep + 1) = deep + 1 := (wrap_small _ (by omega) (by omega)); rw [hwr]; clear hwr; refine (ih (deep := deep + 1) (HA9.out.after (by repeat (first | exact Below.refl _ _ | assumption | refine Below.drew ?_ | refine below_drewN ?_ _ | refine Below.alloc ?_ (by first | (simp; done) | omega | (simp; omega)) _ | refine Below.setCell ?_ (by first | (simp; done) | omega | (simp; omega)) _))) HS.out hX ((HPL.out.grown hg9 (fun e => by injection e with e; omega)).after (by repeat (first | exact Below.refl _ _ | assumption | refine Below.drew ?_ | refine below_drewN ?_ _ | refine Below.alloc ?_ (by first | (simp; done) | omega | (simp; omega)) _ | refine Below.setCell ?_ (by first | (simp; done) | omega | (simp; omega)) _))) (by omega) (by omega)).mono ?_; rintro ek wk ⟨B1, p1, q1, B2, p2, q2, ox, sx, rfl, hRx, hAx, hgx, hPx⟩; have hzk := hgx.size; simp at hzk; have hzw9 := hz9; have hlk : w1.heap.size < wk.heap.size := (by omega); have o4k : wk.cell? ⟨w1.heap.size, 4, none⟩ = some (.slice A2 m2 d2) := gcx hgx (fun e => by injection e with e; omega) (by go_simp); have f4k : wk.frozen? ⟨w1.heap.size, 4, none⟩ = false := gfroz hgx (fun e => by injection e with e; omega) (by simp; omega) (by go_simp); have HRx := Lib.hid hRx; clear hRx; have HAx := Lib.hid hAx; clear hAx; have HPx := Lib.hid hPx; clear hPx; have HKk := Lib.hid (((HK9.out.after (Below.refl _ w9).drew).grown hgx (fun b e e2 => by injection e2 with e2; have := HKB.out b e; omega)).imp (P' := optD (Sel w1.heap.size A7 A2) wk 9223372036854775807 (n + 1)) fun x _ v h => (h.keep (Below.refl w9.heap.size w9).drew.size fun b _ hb => (Below.refl w9.heap.size w9).drew.block b hb).keep hgx.size fun b hs hb => hgx.block b hb (fun e => by injection e with e; have := hs.1; omega))
            refine hK.out _ _ (trivial) ?_
            clear hK K
            try simp only [Act.put, List.setIfInBounds_toArray, List.set_cons_zero, List.set_cons_succ]
            refine regt_call 6 (by kernel_rfl) (by rfl) (fun K hK => ?_)
            go_simp
            refine hK.out _ _ (trivial) ?_
            clear hK K
            try simp only [Act.put, List.setIfInBounds_toArray, List.set_cons_zero, List.set_cons_succ]
            refine regt_call 7 (by kernel_rfl) (by rfl) (fun K hK => ?_)
            refine step_appA rfl tyOpt _ _ rfl (w1.heap.size + 1) _ _ _ (l.map (·.2)) rfl (HKk.out.after (by repeat (first | exact Below.refl _ _ | assumption | refine Below.drew ?_ | refine below_drewN ?_ _ | refine Below.alloc ?_ (by first | (simp; done) | omega | (simp; omega)) _ | refine Below.setCell ?_ (by first | (simp; done) | omega | (simp; omega)) _))) _ _ _ _ [ox] rfl (arr_lit (P := optD (Sel w1.heap.size A7 A2) wk 9223372036854775807 (n + 1)) _ #[.int .u16 (ox.id : Int), .string (str ox.space), .string (str ox.name), .slice B1 p1 q1, .slice B2 p2 q2] ox rfl (HRx.out.mono (S' := Sel w1.heap.size A7 A2) fun b hb _ => ⟨by (have hb2 : _ ≤ b := hb; simp at hb2; omega), fun e => by (have hb2 : _ ≤ b := hb; have := (fun b e => (HN7B.out b e).2.1) b e; simp at hb2; omega), fun e => by (have hb2 : _ ≤ b := hb; have := HKB.out b e; simp at hb2; omega)⟩).to (by simp)) (fun _ _ h => h.one) (fun _ _ _ h => h) (by omega) (by unfold maxLen; omega) (by simp; omega) ?_; intro A4 m4 d4 w5 hown5 hg5 hw5; have o45 : w5.cell? ⟨w1.heap.size, 4, none⟩ = some (.slice A2 m2 d2) := gcx hg5 (fun e => by have := HKB.out _ e; omega) (by go_simp); have f45 : w5.frozen? ⟨w1.heap.size, 4, none⟩ = false := gfroz hg5 (fun e => by have := HKB.out _ e.symm; omega) (by simp; omega) (by go_simp); have hz5 := hg5.size; simp at hz5; have HO5 := Lib.hid hown5; clear hown5
            refine hK.out _ _ (trivial) ?_
            clear hK K
            try simp only [Act.put, List.setIfInBounds_toArray, List.set_cons_zero, List.set_cons_succ]
            (refine regt_take 8 (v := ?_) (by rfl) (by kernel_rfl) (by kernel_rfl) (by kernel_rfl) (by exact fun _ _ _ h => h) (by rfl) ?_ ?_; rotate_left; focus (intro w hSw; go_simp; try with_reducible rfl))
            simp only [Act.put, List.setIfInBounds_toArray, List.set_cons_zero, List.set_cons_succ]
            refine regt_call 9 (by kernel_rfl) (by rfl) (fun K hK => ?_)
            go_simp
            refine hK.out _ _ (trivial) ?_
            clear hK K
            try simp only [Act.put, List.setIfInBounds_toArray, List.set_cons_zero, List.set_cons_succ]
            refine wpAnyH_done (by kernel_rfl) ?_ _
          rotate_left 1
          focus
            go_simp
            go_at_call 79; have hwr : IntKind.i64.wrap (deep + 1) = deep + 1 := (wrap_small _ (by omega) (by omega)); rw [hwr]; clear hwr; refine (ih (deep := deep + 1) (HA9.out.after (by repeat (first | exact Below.refl _ _ | assumption | refine Below.drew ?_ | refine below_drewN ?_ _ | refine Below.alloc ?_ (by first | (simp; done) | omega | (simp; omega)) _ | refine Below.setCell ?_ (by first | (simp; done) | omega | (simp; omega)) _))) HS.out hX ((HPL.out.grown hg9 (fun e => by injection e with e; omega)).after (by repeat (first | exact Below.refl _ _ | assumption | refine Below.drew ?_ | refine below_drewN ?_ _ | refine Below.alloc ?_ (by first | (simp; done) | omega | (simp; omega)) _ | refine Below.setCell ?_ (by first | (simp; done) | omega | (simp; omega)) _))) (by omega) (by omega)).mono ?_; rintro ek wk ⟨B1, p1, q1, B2, p2, q2, ox, sx, rfl, hRx, hAx, hgx, hPx⟩; have hzk := hgx.size; simp at hzk; have hzw9 := hz9; have hlk : w1.heap.size < wk.heap.size := (by omega); have o4k : wk.cell? ⟨w1.heap.size, 4, none⟩ = some (.slice A2 m2 d2) := gcx hgx (fun e => by injection e with e; omega) (by go_simp); have f4k : wk.frozen? ⟨w1.heap.size, 4, none⟩ = false := gfroz hgx (fun e => by injection e with e; omega) (by simp; omega) (by go_simp); have HRx := Lib.hid hRx; clear hRx; have HAx := Lib.hid hAx; clear hAx; have HPx := Lib.hid hPx; clear hPx; have HKk := Lib.hid (((HK9.out.after (Below.refl _ w9).drew).grown hgx (fun b e e2 => by injection e2 with e2; have := HKB.out b e; omega)).imp (P' := optD (Sel w1.heap.size A7 A2) wk 9223372036854775807 (n + 1)) fun x _ v h => (h.keep (Below.refl w9.heap.size w9).drew.size fun b _ hb => (Below.refl w9.heap.size w9).drew.block b hb).keep hgx.size fun b hs hb => hgx.block b hb (fun e => by injection e with e; have := hs.1; omega))
            refine hK.out _ _ (trivial) ?_
            clear hK K
            try simp only [Act.put, List.setIfInBounds_toArray, List.set_cons_zero, List.set_cons_succ]
            refine regt_two 1 6 (by kernel_rfl) (by rfl) (by rfl) (fun K hK => ?_) (fun K hK => ?_)
            focus
              go_simp
              refine hK.out _ _ (trivial) ?_
              clear hK K
              try simp only [Act.put, List.setIfInBounds_toArray, List.set_cons_zero, List.set_cons_succ]
              refine regt_call 6 (by kernel_rfl) (by rfl) (fun K hK => ?_)
              go_simp
              refine hK.out _ _ (trivial) ?_
              clear hK K
              try simp only [Act.put, List.setIfInBounds_toArray, List.set_cons_zero, List.set_cons_succ]
              refine regt_call 7 (by kernel_rfl) (by rfl) (fun K hK => ?_)
              refine step_appA rfl tyOpt _ _ rfl (w1.heap.size + 1) _ _ _ (l.map (·.2)) rfl (HKk.out.after (by repeat (first | exact Below.refl _ _ | assumption | refine Below.drew ?_ | refine below_drewN ?_ _ | refine Below.alloc ?_ (by first | (simp; done) | omega | (simp; omega)) _ | refine Below.setCell ?_ (by first | (simp; done) | omega | (simp; omega)) _))) _ _ _ _ [ox] rfl (arr_lit (P := optD (Sel w1.heap.size A7 A2) wk 9223372036854775807 (n + 1)) _ #[.int .u16 (ox.id : Int), .string (str ox.space), .string (str ox.name), .slice B1 p1 q1, .slice B2 p2 q2] ox rfl (HRx.out.mono (S' := Sel w1.heap.size A7 A2) fun b hb _ => ⟨by (have hb2 : _ ≤ b := hb; simp at hb2; omega), fun e => by (have hb2 : _ ≤ b := hb; have := (fun b e => (HN7B.out b e).2.1) b e; simp at hb2; omega), fun e => by (have hb2 : _ ≤ b := hb; have := HKB.out b e; simp at hb2; omega)⟩).to (by simp)) (fun _ _ h => h.one) (fun _ _ _ h => h) (by omega) (by unfold maxLen; omega) (by simp; omega) ?_; intro A4 m4 d4 w5 hown5 hg5 hw5; have o45 : w5.cell? ⟨w1.heap.size, 4, none⟩ = some (.slice A2 m2 d2) := gcx hg5 (fun e => by have := HKB.out _ e; omega) (by go_simp); have f45 : w5.frozen? ⟨w1.heap.size, 4, none⟩ = false := gfroz hg5 (fun e => by have := HKB.out _ e.symm; omega) (by simp; omega) (by go_simp); have hz5 := hg5.size; simp at hz5; have HO5 := Lib.hid hown5; clear hown5
              refine hK.out _ _ (trivial) ?_
              clear hK K
              try simp only [Act.put, List.setIfInBounds_toArray, List.set_cons_zero, List.set_cons_succ]
              (refine regt_take 8 (v := ?_) (by rfl) (by kernel_rfl) (by kernel_rfl) (by kernel_rfl) (by exact fun _ _ _ h => h) (by rfl) ?_ ?_; rotate_left; focus (intro w hSw; go_simp; try with_reducible rfl))
              simp only [Act.put, List.setIfInBounds_toArray, List.set_cons_zero, List.set_cons_succ]
              refine regt_call 9 (by kernel_rfl) (by rfl) (fun K hK => ?_)
              go_simp
              refine hK.out _ _ (trivial) ?_
              clear hK K
              try simp only [Act.put, List.setIfInBounds_toArray, List.set_cons_zero, List.set_cons_succ]
              refine wpAnyH_done (by kernel_rfl) ?_ _
            rotate_left 1
            focus
              go_simp
              refine hK.out _ _ (trivial) ?_
              clear hK K
              try simp only [Act.put, List.setIfInBounds_toArray, List.set_cons_zero, List.set_cons_succ]
              refine regt_call 1 (by kernel_rfl) (by rfl) (fun K hK => ?_)
              go_simp
              refine hK.out _ _ (trivial) ?_
              clear hK K
              try simp only [Act.put, List.setIfInBounds_toArray, List.set_cons_zero, List.set_cons_succ]
              refine regt_call 7 (by kernel_rfl) (by rfl) (fun K hK => ?_)
              refine step_appA rfl tyOpt _ _ rfl (w1.heap.size + 1) _ _ _ (l.map (·.2)) rfl (HKk.out.after (by repeat (first | exact Below.refl _ _ | assumption | refine Below.drew ?_ | refine below_drewN ?_ _ | refine Below.alloc ?_ (by first | (simp; done) | omega | (simp; omega)) _ | refine Below.setCell ?_ (by first | (simp; done) | omega | (simp; omega)) _))) _ _ _ _ [ox] rfl (arr_lit (P := optD (Sel w1.heap.size A7 A2) wk 9223372036854775807 (n + 1)) _ #[.int .u16 (ox.id : Int), .string (str ox.space), .string (str ox.name), .slice B1 p1 q1, .slice B2 p2 q2] ox rfl (HRx.out.mono (S' := Sel w1.heap.size A7 A2) fun b hb _ => ⟨by (have hb2 : _ ≤ b := hb; simp at hb2; omega), fun e => by (have hb2 : _ ≤ b := hb; have := (fun b e => (HN7B.out b e).2.1) b e; simp at hb2; omega), fun e => by (have hb2 : _ ≤ b := hb; have := HKB.out b e; simp at hb2; omega)⟩).to (by simp)) (fun _ _ h => h.one) (fun _ _ _ h => h) (by omega) (by unfold maxLen; omega) (by simp; omega) ?_; intro A4 m4 d4 w5 hown5 hg5 hw5; have o45 : w5.cell? ⟨w1.heap.size, 4, none⟩ = some (.slice A2 m2 d2) := gcx hg5 (fun e => by have := HKB.out _ e; omega) (by go_simp); have f45 : w5.frozen? ⟨w1.heap.size, 4, none⟩ = false := gfroz hg5 (fun e => by have := HKB.out _ e.symm; omega) (by simp; omega) (by go_simp); have hz5 := hg5.size; simp at hz5; have HO5 := Lib.hid hown5; clear hown5
              refine hK.out _ _ (trivial) ?_
              clear hK K
              try simp only [Act.put, List.setIfInBounds_toArray, List.set_cons_zero, List.set_cons_succ]
              (refine regt_take 8 (v := ?_) (by rfl) (by kernel_rfl) (by kernel_rfl) (by kernel_rfl) (by exact fun _ _ _ h => h) (by rfl) ?_ ?_; rotate_left; focus (intro w hSw; go_simp; try with_reducible rfl))
              simp only [Act.put, List.setIfInBounds_toArray, List.set_cons_zero, List.set_cons_succ]
              refine regt_call 9 (by kernel_rfl) (by rfl) (fun K hK => ?_)
              go_simp
              refine hK.out _ _ (trivial) ?_
              clear hK K
              try simp only [Act.put, List.setIfInBounds_toArray, List.set_cons_zero, List.set_cons_succ]
              refine wpAnyH_done (by kernel_rfl) ?_ _
          all_goals
            have hAb : wk.grownBy w5 (A2.map (·.block)) := grow_seq (grow_of_below (row := A2.map (·.block)) (by repeat (first | exact Below.refl _ _ | assumption | refine Below.drew ?_ | refine below_drewN ?_ _ | refine Below.alloc ?_ (by first | (simp; done) | omega | (simp; omega)) _ | refine Below.setCell ?_ (by first | (simp; done) | omega | (simp; omega)) _))) hg5 fun j e => .inr e
            have hA2X : A2.map (·.block) ≠ some X := fun e => by have := HKB.out _ e; omega
            have hA2O : A2.map (·.block) ≠ some w1.heap.size := fun e => by have := HKB.out _ e; omega
            have hA2R : A2.map (·.block) ≠ some w.heap.size := fun e => by have := HKB.out _ e; omega
            have hXO : ∀ b, w1.heap.size ≤ b → (some X : Option Nat) ≠ some b := fun b h e => by injection e with e; omega
            have hG6 := grow_setCell w5 w1.heap.size 4 (.slice A4 m4 d4)
            have hNX : ∀ b, A7.map (·.block) = some b → w1.heap.size < b ∧ A2.map (·.block) ≠ some b := fun b e => ⟨(HN7B.out b e).1, (HN7B.out b e).2.2⟩
            have B6 := Lib.hid ((((HO9.out.after (Below.refl _ w9).drew).grown hgx (hXO _ (Nat.le_refl _))).grown hAb hA2O).set4 (.slice A4 m4 d4))
            have R6 := Lib.hid ((((HR9.out.after (Below.refl _ w9).drew).grown hgx (fun e => by injection e with e; omega)).grown hAb hA2R).setOther (j := w1.heap.size) (i := 4) (by omega) (.slice A4 m4 d4))
            have D6 := Lib.hid ((HAx.out.grown hAb hA2X (fun b h e => by have := HKB.out b e; have := HS.out b h; omega)).set (j := w1.heap.size) (i := 4) (by omega) (fun b h => by have := HS.out b h; omega) (.slice A4 m4 d4))
            have N6 := Lib.hid ((((HN9.out.after (Below.refl _ w9).drew).grown hgx (fun b e => by have h := hNX b e; intro e2; injection e2 with e2; omega)).grown hAb (fun b e e2 => (hNX b e).2 e2.symm)).grown hG6 (fun b e e2 => by injection e2 with e2; have h := hNX b e; omega))
            have hw4 : ∀ b, A4.map (·.block) = some b → w1.heap.size < b := fun b e => by rcases hw5 b e with h1 | h1; exact (HKB.out b h1).1; simp at h1; omega
            have K6 : Hid (OwnA 62 5 (optD (Sel w1.heap.size A7 A4) (w5.setCell ⟨w1.heap.size, 4, none⟩ (.slice A4 m4 d4)) 9223372036854775807 (n + 1)) (w1.heap.size + 1) (w5.setCell ⟨w1.heap.size, 4, none⟩ (.slice A4 m4 d4)) A4 m4 d4 ((l ++ [(textV (.ok rs2), ox)] : List (B × Opt)).map fun x => x.2)) := by
              rw [List.map_append]
              exact (HO5.out.grown hG6 (fun b e e2 => by injection e2 with e2; have := hw4 b e; omega)).imp fun x _ v h => (((h.mono (S' := fun b => Sel w1.heap.size A7 A2 b ∧ b < wk.heap.size) fun b h1 h2 => ⟨h1, h2⟩).keep hAb.size fun b hs hb => hAb.block b hb (fun e => hs.1.2.2 e.symm)).keep hG6.size fun b hs hb => hG6.block b hb (fun e => by injection e with e; have := hs.1.1; omega)).mono (S' := Sel w1.heap.size A7 A4) fun b hs _ => ⟨hs.1.1, hs.1.2.1, fun e => by rcases hw5 b e with h1 | h1; exact hs.1.2.2 h1; simp at h1; have := hs.2; omega⟩
            have E6 : Hid (∀ b, A7.map (·.block) = some b → A4.map (·.block) ≠ some b) := fun b e1 e2 => by rcases hw5 b e2 with h | h; exact (hNX b e1).2 h; have := (fun b e => (HN7B.out b e).2.1) b e1; simp at h; omega
            have G6 : w.grownBy (w5.setCell ⟨w1.heap.size, 4, none⟩ (.slice A4 m4 d4)) (some X) := grow_seq (grow_seq (grow_seq (grow_seq hg9 (grow_of_below (row := some X) (Below.refl _ w9).drew) fun j e => .inr e) hgx fun j e => .inr e) hAb (fun j e => by have := HKB.out j e; left; omega)) hG6 (fun j e => by injection e with e; left; omega)
            have P6 : Hid (Prg n 48 (m) (shortR (textR (textR (.ok rs)))) (k + 1) (l ++ [(textV (.ok rs2), ox)]) sx) := HPRG.out.step hlt (textV (.ok rs2), ox) sx (kid_48 HPx.out).1 (kid_48 HPx.out).2
            have L6 : (l ++ [(textV (.ok rs2), ox)]).length = k + 1 := by have := HLL.out; simp; omega
            have N7 := N6.out
            have e7 : nmsO 48 (l ++ [(textV (.ok rs2), ox)]) = nmsO 48 l ++ [textV (.ok rs2)] := nms_snoc_48 l _
            rw [← e7] at N7
            clear hAb hA2X hA2O hA2R hXO hG6 hNX hw4 o45 f45 o4k f4k
            go_wp2_with fail
            exact ⟨⟨k + 1, A7, m7, d7, A4, m4, d4, l ++ [(textV (.ok rs2), ox)], sx, by omega, by go_num, L6, B6.out, R6.out, D6.out, N7, K6.out, E6, G6, P6⟩, by simp [intOf]; omega⟩
      | error ee =>
        have hf := HPRG.out.fin (hd := (sp, tv)) (.inr ⟨_, rfl⟩) _ HGETO.out.symm
        have HP : Hid (RdPost (n + 1) (.ok cur) (mkO 48 (sp, tv) l) _) := ⟨fun cu e r hr => by injection e with e; subst e; subst hr; exact hf, fun e h => by cases h⟩
        clear hf
        have HF : Hid (OptR (fun b => w.heap.size < b) wr 9223372036854775807 (n + 1) A1 m1 d1 A2 m2 d2 (mkO 48 (sp, tv) l)) := ⟨hid, hSPL, hNML, (hN.arr (by decide)).mono fun b h _ => by omega, ((hK.arr (by decide)).mono fun b h _ => by omega).imp fun _ _ _ h => h.mono fun b h _ => by (have := h.1; omega)⟩
        clear hN hK

        have hAl := hA.lt
        have hOl := hO.lt
        have hRl := hR.lt
        have o0 := hO.c0
        have o1 := hO.c1
        have o2 := hO.c2
        have o3 := hO.c3
        have o4 := hO.c4
        have HA := Lib.hid hA
        obtain ⟨AX2, nX2, cX2, x0, x1, x2, x3, x4⟩ := hA
        simp only [werr_error] at x1
        have hne : ee ≠ 0 := x4 ee rfl
        clear x0 x2 x3 x4

        have r0 := hR.c0
        have r1 := hR.c1
        have r2 := hR.c2
        have r3 := hR.c3
        have r4 := hR.c4
        have f0 := hR.fr 0
        have f1 := hR.fr 1
        have f2 := hR.fr 2
        have f3 := hR.fr 3
        have f4 := hR.fr 4
        clear hO hR
        go_wp2_with fail
        refine bodyPost_ret (v := .agg #[.int .u16 (48 : Nat), .string (str sp), .string (str tv), .slice A1 m1 d1, .slice A2 m2 d2]) (by simp [results, Tryd.results79, go_sem, r0, r1, r2, r3, r4]) rfl ?_
        have hg5 := grow5 wr w.heap.size (.int .u16 (48 : Nat)) (.string (str sp)) (.string (str tv)) (.slice A1 m1 d1) (.slice A2 m2 d2)
        have HF5 := (HF.out.grown hg5 (fun b (h : _ < b) e => by injection e with e; omega)).mono (S' := fun b => w.heap.size ≤ b) fun b (h : _ < b) _ => by omega
        have HA5 := HA.out.grown hg5 (fun e => by injection e with e; omega) (fun b h e => by injection e with e; have := HS.out b h; omega)
        have HG5 : w.grownBy _ (some X) := grow_seq hgr hg5 fun j e => by (injection e with e; left; omega)
        first
          | exact ⟨_, _, _, _, _, _, (mkO 48 (sp, tv) l), _, rfl, HF5, HA5, HG5, HP.out⟩
          | exact ⟨_, _, _, _, _, _, (mkO 48 (sp, tv) l), rfl, HF5, _, HA5, HG5, HP.out⟩
    · obtain hkm : k = m := by omega
      have HKM := Lib.hid hkm; clear hkm
      have hf := HPRG.out.fin (hd := (sp, tv)) (.inl HKM.out) _ HGETO.out.symm
      have HP : Hid (RdPost (n + 1) (.ok cur) (mkO 48 (sp, tv) l) _) := ⟨fun cu e r hr => by injection e with e; subst e; subst hr; exact hf, fun e h => by cases h⟩
      clear hf
      have HF : Hid (OptR (fun b => w.heap.size < b) wr 9223372036854775807 (n + 1) A1 m1 d1 A2 m2 d2 (mkO 48 (sp, tv) l)) := ⟨hid, hSPL, hNML, (hN.arr (by decide)).mono fun b h _ => by omega, ((hK.arr (by decide)).mono fun b h _ => by omega).imp fun _ _ _ h => h.mono fun b h _ => by (have := h.1; omega)⟩
      clear hN hK

      have hAl := hA.lt
      have hOl := hO.lt
      have hRl := hR.lt
      have o0 := hO.c0
      have o1 := hO.c1
      have o2 := hO.c2
      have o3 := hO.c3
      have o4 := hO.c4
      have HA := Lib.hid hA
      obtain ⟨AX2, nX2, cX2, x0, x1, x2, x3, x4⟩ := hA
      skip
      clear x0 x2 x3 x4

      have r0 := hR.c0
      have r1 := hR.c1
      have r2 := hR.c2
      have r3 := hR.c3
      have r4 := hR.c4
      have f0 := hR.fr 0
      have f1 := hR.fr 1
      have f2 := hR.fr 2
      have f3 := hR.fr 3
      have f4 := hR.fr 4
      clear hO hR
      go_wp2_with fail
      refine bodyPost_ret (v := .agg #[.int .u16 (48 : Nat), .string (str sp), .string (str tv), .slice A1 m1 d1, .slice A2 m2 d2]) (by simp [results, Tryd.results79, go_sem, r0, r1, r2, r3, r4]) rfl ?_
      have hg5 := grow5 wr w.heap.size (.int .u16 (48 : Nat)) (.string (str sp)) (.string (str tv)) (.slice A1 m1 d1) (.slice A2 m2 d2)
      have HF5 := (HF.out.grown hg5 (fun b (h : _ < b) e => by injection e with e; omega)).mono (S' := fun b => w.heap.size ≤ b) fun b (h : _ < b) _ => by omega
      have HA5 := HA.out.grown hg5 (fun e => by injection e with e; omega) (fun b h e => by injection e with e; have := HS.out b h; omega)
      have HG5 : w.grownBy _ (some X) := grow_seq hgr hg5 fun j e => by (injection e with e; left; omega)
      first
        | exact ⟨_, _, _, _, _, _, (mkO 48 (sp, tv) l), _, rfl, HF5, HA5, HG5, HP.out⟩
        | exact ⟨_, _, _, _, _, _, (mkO 48 (sp, tv) l), rfl, HF5, _, HA5, HG5, HP.out⟩
end Go.Proofs.Sb

/- Walks over option.reader's option, option.Get. Conditions: the table of names reads as it was laid; lengths up to 2^47. (written by gen_optread.py) -/
namespace Go.Proofs.Sb
open Go.RowKit _root_.Sb

theorem readO_all : ∀ n : Nat, ReadO n := by
  intro n
  induction n with
  | zero =>
    intro S w X s deep hrd hS hX hpl hdn hd1
    cases s with
    | error ee => exact readO_err hrd hS hX hpl hdn hd1
    | ok cur => exact readO_deep (n := 0) hrd hS hX hpl (by omega)
  | succ n ih =>
    intro S w X s deep hrd hS hX hpl hdn hd1
    cases s with
    | error ee => exact readO_err hrd hS hX hpl hdn hd1
    | ok cur =>
      cases hg : getN 2 cur with
      | error ee => exact readO_short hrd hS hX hpl (by omega) hd1 hg
      | ok p =>
        obtain ⟨id, rs⟩ := p
        by_cases hk : kn id = -2
        · exact readO_bad hrd hS hX hpl (by omega) hd1 hg hk
        · by_cases h0 : id = 0
          · subst h0; exact readO_0 hrd hS hX hpl (by omega) hd1 hg
          · by_cases hk0 : 0 ≤ kn id
            · exact readO_else ih hrd hS hX hpl (by omega) hd1 hg hk0 h0
            · have hr := kn_range id
              rcases kn_many (id := id) (by omega) with h | h
              · subst h; exact readO_48 ih hrd hS hX hpl (by omega) hd1 hg
              · subst h; exact readO_49 ih hrd hS hX hpl (by omega) hd1 hg
theorem getO_ne : ∀ {n : Nat} {b : B} {e : Int}, getO n b = .error e → e ≠ 0 := by
  intro n
  induction n with
  | zero => intro b e h; injection h with h; omega
  | succ n ih =>
    intro b e h
    have hm : ∀ {id k : Nat} {c : B} {e : Int}, getsM (kidR (getO n) id) k c = .error e → e ≠ 0 := by
      intro id k
      induction k with
      | zero => intro c e h; cases h
      | succ k ihk =>
        intro c e h
        simp only [getsM] at h
        cases h1 : kidR (getO n) id c with
        | error e1 =>
          rw [h1] at h
          injection h with h
          subst h
          unfold kidR bothR nameR at h1
          by_cases h48 : id = 48
          · rw [if_pos h48] at h1
            cases h2 : getText c with
            | error e2 => rw [h2] at h1; injection h1 with h1; subst h1; exact gt_ne h2
            | ok x =>
              rw [h2] at h1
              simp only at h1
              cases h3 : getO n x.2 with
              | error e3 => rw [h3] at h1; injection h1 with h1; subst h1; exact ih h3
              | ok y => rw [h3] at h1; cases h1
          · rw [if_neg h48] at h1
            simp only at h1
            cases h3 : getO n c with
            | error e3 => rw [h3] at h1; injection h1 with h1; subst h1; exact ih h3
            | ok y => rw [h3] at h1; cases h1
        | ok p =>
          rw [h1] at h
          simp only at h
          cases h2 : getsM (kidR (getO n) id) k p.2 with
          | error e2 => rw [h2] at h; injection h with h; subst h; exact ihk h2
          | ok q => rw [h2] at h; cases h
    have hfin : ∀ {id m : Nat} {hd : B × B} {c : B} {e : Int}, (match getsM (kidR (getO n) id) m c with | .error e => .error e | .ok (l, r) => .ok (mkO id hd l, r) : Res Opt) = .error e → e ≠ 0 := by
      intro id m hd c e h
      cases h1 : getsM (kidR (getO n) id) m c with
      | error e1 => rw [h1] at h; injection h with h; subst h; exact hm h1
      | ok p => rw [h1] at h; cases h
    simp only [getO] at h
    cases h1 : getN 2 b with
    | error e1 => rw [h1] at h; injection h with h; subst h; have := getN_err h1; omega
    | ok p =>
      rw [h1] at h
      simp only at h
      by_cases h2 : kn p.1 = -2
      · rw [if_pos h2] at h; injection h with h; omega
      · rw [if_neg h2] at h
        cases h3 : headR p.1 p.2 with
        | error e1 =>
          rw [h3] at h
          injection h with h
          subst h
          unfold headR bothR at h3
          by_cases h48 : p.1 = 48
          · rw [if_pos h48] at h3
            cases h4 : getText p.2 with
            | error e2 => rw [h4] at h3; injection h3 with h3; subst h3; exact gt_ne h4
            | ok x =>
              rw [h4] at h3
              simp only at h3
              cases h5 : getText x.2 with
              | error e3 => rw [h5] at h3; injection h3 with h3; subst h3; exact gt_ne h5
              | ok y => rw [h5] at h3; cases h3
          · rw [if_neg h48] at h3
            by_cases h0 : p.1 = 0
            · rw [if_pos h0] at h3
              cases h4 : getText p.2 with
              | error e2 => rw [h4] at h3; injection h3 with h3; subst h3; exact gt_ne h4
              | ok x => rw [h4] at h3; cases h3
            · rw [if_neg h0] at h3; cases h3
        | ok q =>
          rw [h3] at h
          simp only at h
          cases h4 : cntR p.1 q.2 with
          | error e1 =>
            rw [h4] at h
            injection h with h
            subst h
            unfold cntR at h4
            split at h4
            · have := getN_err h4; omega
            · cases h4
          | ok t =>
            rw [h4] at h
            exact hfin h

set_option maxHeartbeats 4000000 in
set_option maxRecDepth 100000 in
theorem oGet_any {S : Nat → Prop} {A : Option Addr} {m c : Nat} {bs : B} {w : World} (hs : Sl S w A m c bs) (hm : m ≤ 140737488355328) (hpl : Pl w) (r : Res Opt) (hr : getO 20 bs = r) :
    Calls Tryd.prog 51 #[.slice A m c] w fun e w' => ∃ A1 n1 c1 A2 n2 c2 A3 n3 c3, e = .returned (.tuple #[optV (rval Opt.none r) A1 n1 c1 A2 n2 c2, .slice A3 n3 c3, .int .i64 (rerr r)]) ∧ OptR (fun b => w.heap.size ≤ b) w' 9223372036854775807 20 A1 n1 c1 A2 n2 c2 (rval Opt.none r) ∧ Sl S w' A3 n3 c3 (rrest r) ∧ Below w.heap.size w w' := by
  have HS := Lib.hid hs.lt; clear hs
  have HPL := Lib.hid hpl; clear hpl
  have HR := Lib.hid hr; clear hr
  go_enter Tryd.func51, Tryd.ntmps51
  go_wp2_with fail
  refine (readO_all 20 (S := fun b => S b ∧ b < w.heap.size) (X := w.heap.size + 1) (s := .ok bs) (deep := 1) ⟨A, m, c, by go_simp, by go_simp, fun o => by go_simp, fun cur e => by (injection e with e; subst e; exact ⟨HS.out.after (by repeat (first | exact Below.refl _ _ | assumption | refine Below.drew ?_ | refine below_drewN ?_ _ | refine Below.alloc ?_ (by first | (simp; done) | omega | (simp; omega)) _ | refine Below.setCell ?_ (by first | (simp; done) | omega | (simp; omega)) _)), hm⟩), fun e h => (by cases h)⟩ (fun b h => by have := h.2; omega) (by omega) (HPL.out.after (by repeat (first | exact Below.refl _ _ | assumption | refine Below.drew ?_ | refine below_drewN ?_ _ | refine Below.alloc ?_ (by first | (simp; done) | omega | (simp; omega)) _ | refine Below.setCell ?_ (by first | (simp; done) | omega | (simp; omega)) _))) (by decide) (by decide)).mono ?_
  rintro e w1 ⟨A1, n1, c1, A2, n2, c2, o, s', rfl, ho, ha, hg, hp⟩
  have hR1 : BoxAt w1 w.heap.size (.int .u16 0) (.string (str [])) (.string (str [])) (.slice none 0 0) (.slice none 0 0) := ((box_new w _ _ _ _ _ _).after (by repeat (first | exact Below.refl _ _ | assumption | refine Below.drew ?_ | refine below_drewN ?_ _ | refine Below.alloc ?_ (by first | (simp; done) | omega | (simp; omega)) _ | refine Below.setCell ?_ (by first | (simp; done) | omega | (simp; omega)) _))).grown hg (fun e => by injection e with e; omega)
  have hX1 := ha.lt
  have hR1l := hR1.lt
  have hpp := hp.1 bs rfl r HR.out
  clear hp
  have HA := Lib.hid ha
  obtain ⟨AX, nX, cX, x0, x1, x2, x3, x4⟩ := ha
  have HO := Lib.hid ho; clear ho
  have r0 := hR1.c0
  have r1 := hR1.c1
  have r2 := hR1.c2
  have r3 := hR1.c3
  have r4 := hR1.c4
  have f0 := hR1.fr 0
  have f1 := hR1.fr 1
  have f2 := hR1.fr 2
  have f3 := hR1.fr 3
  have f4 := hR1.fr 4
  have hb01 : Below w.heap.size w w1 := below_grow (by repeat (first | exact Below.refl _ _ | assumption | refine Below.drew ?_ | refine below_drewN ?_ _ | refine Below.alloc ?_ (by first | (simp; done) | omega | (simp; omega)) _ | refine Below.setCell ?_ (by first | (simp; done) | omega | (simp; omega)) _)) hg (by simp; omega) (fun b e => by injection e with e; omega)
  clear hR1 hg x2
  cases r with
  | error er =>
    have hs' := hpp.2 er rfl
    subst hs'
    have hne : er ≠ 0 := getO_ne HR.out
    simp only [werr_error] at x1
    clear hpp x3
    have HB5 := Lib.hid (below_grow hb01 (grow5 w1 w.heap.size (.int .u16 0) (.string ⟨#[]⟩) (.string ⟨#[]⟩) (.slice none 0 0) (.slice none 0 0)) (by omega) (fun b e => by injection e with e; omega))
    go_wp2_with fail
    refine regt_start (by kernel_rfl) ?_
    (refine regt_take 0 (v := ?_) (by rfl) (by kernel_rfl) (by kernel_rfl) (by kernel_rfl) (by exact fun _ _ _ h => h) (by rfl) ?_ ?_; rotate_left; focus (intro w hSw; go_simp; try with_reducible rfl))
    simp only [Act.put, List.setIfInBounds_toArray, List.set_cons_zero, List.set_cons_succ]
    (refine regt_take 1 (v := ?_) (by rfl) (by kernel_rfl) (by kernel_rfl) (by kernel_rfl) (by exact fun _ _ _ h => h) (by rfl) ?_ ?_; rotate_left; focus (intro w hSw; go_simp; try with_reducible rfl))
    simp only [Act.put, List.setIfInBounds_toArray, List.set_cons_zero, List.set_cons_succ]
    (refine regt_take 2 (v := ?_) (by rfl) (by kernel_rfl) (by kernel_rfl) (by kernel_rfl) (by exact fun _ _ _ h => h) (by rfl) ?_ ?_; rotate_left; focus (intro w hSw; go_simp; try with_reducible rfl))
    simp only [Act.put, List.setIfInBounds_toArray, List.set_cons_zero, List.set_cons_succ]
    (refine regt_take 3 (v := ?_) (by rfl) (by kernel_rfl) (by kernel_rfl) (by kernel_rfl) (by exact fun _ _ _ h => h) (by rfl) ?_ ?_; rotate_left; focus (intro w hSw; go_simp; try with_reducible rfl))
    simp only [Act.put, List.setIfInBounds_toArray, List.set_cons_zero, List.set_cons_succ]
    refine regt_two 4 5 (by kernel_rfl) (by rfl) (by rfl) (fun K hK => ?_) (fun K hK => ?_)
    focus
      go_simp
      refine hK.out _ _ (trivial) ?_
      clear hK K
      try simp only [Act.put, List.setIfInBounds_toArray, List.set_cons_zero, List.set_cons_succ]
      refine regt_call 5 (by kernel_rfl) (by rfl) (fun K hK => ?_)
      go_simp
      refine hK.out _ _ (trivial) ?_
      clear hK K
      try simp only [Act.put, List.setIfInBounds_toArray, List.set_cons_zero, List.set_cons_succ]
      (refine regt_take 6 (v := ?_) (by rfl) (by kernel_rfl) (by kernel_rfl) (by kernel_rfl) (by exact fun _ _ _ h => h) (by rfl) ?_ ?_; rotate_left; focus (intro w hSw; go_simp; try with_reducible rfl))
      simp only [Act.put, List.setIfInBounds_toArray, List.set_cons_zero, List.set_cons_succ]
      (refine regt_take 7 (v := ?_) (by rfl) (by kernel_rfl) (by kernel_rfl) (by kernel_rfl) (by exact fun _ _ _ h => h) (by rfl) ?_ ?_; rotate_left; focus (intro w hSw; go_simp; try with_reducible rfl))
      simp only [Act.put, List.setIfInBounds_toArray, List.set_cons_zero, List.set_cons_succ]
      refine wpAnyH_done (by kernel_rfl) ?_ _
    rotate_left 1
    focus
      go_simp
      refine hK.out _ _ (trivial) ?_
      clear hK K
      try simp only [Act.put, List.setIfInBounds_toArray, List.set_cons_zero, List.set_cons_succ]
      (refine regt_take 6 (v := ?_) (by rfl) (by kernel_rfl) (by kernel_rfl) (by kernel_rfl) (by exact fun _ _ _ h => h) (by rfl) ?_ ?_; rotate_left; focus (intro w hSw; go_simp; try with_reducible rfl))
      simp only [Act.put, List.setIfInBounds_toArray, List.set_cons_zero, List.set_cons_succ]
      refine regt_call 4 (by kernel_rfl) (by rfl) (fun K hK => ?_)
      go_simp
      refine hK.out _ _ (trivial) ?_
      clear hK K
      try simp only [Act.put, List.setIfInBounds_toArray, List.set_cons_zero, List.set_cons_succ]
      (refine regt_take 7 (v := ?_) (by rfl) (by kernel_rfl) (by kernel_rfl) (by kernel_rfl) (by exact fun _ _ _ h => h) (by rfl) ?_ ?_; rotate_left; focus (intro w hSw; go_simp; try with_reducible rfl))
      simp only [Act.put, List.setIfInBounds_toArray, List.set_cons_zero, List.set_cons_succ]
      refine wpAnyH_done (by kernel_rfl) ?_ _
    all_goals
      go_wp2_with fail
      refine bodyPost_ret (v := .tuple #[.agg #[.int .u16 0, .string ⟨#[]⟩, .string ⟨#[]⟩, .slice none 0 0, .slice none 0 0], .slice none 0 0, .int .i64 er]) (by simp [results, Tryd.results51]; go_simp) rfl ?_
      simp only [rval_error, rerr_error, rrest_error]
      refine ⟨none, 0, 0, none, 0, 0, none, 0, 0, ?_, ?_, ?_, ?_⟩
      · rfl
      · exact OptR.none
      · exact Sl.nil
      · exact Below.drew (Below.alloc HB5.out (by simp; omega) _)
  | ok p =>
    obtain ⟨ho', hs'⟩ := hpp.1 p.1 p.2 rfl
    subst ho' hs'
    have hX := (x3 p.2 rfl).1
    have HX := Lib.hid hX; clear hX
    simp only [werr_ok] at x1
    clear hpp x3
    have hg5 := grow5 w1 w.heap.size (.int .u16 (p.1.id : Int)) (.string (str p.1.space)) (.string (str p.1.name)) (.slice A1 n1 c1) (.slice A2 n2 c2)
    have HO5 := Lib.hid ((HO.out.grown hg5 (fun b (h : _ ≤ b) e => by injection e with e; simp at h; omega)).mono (S' := fun b => w.heap.size ≤ b) fun b (h : _ ≤ b) _ => by simp at h; omega)
    have HX5 := Lib.hid ((HX.out.grown hg5 (fun b h e => by injection e with e; have := h.2; omega)).mono (S' := S) fun b h _ => h.1)
    have HB5 := Lib.hid (below_grow hb01 hg5 (by omega) (fun b e => by injection e with e; omega)); clear hg5
    go_wp2_with fail
    refine regt_start (by kernel_rfl) ?_
    (refine regt_take 1 (v := ?_) (by rfl) (by kernel_rfl) (by kernel_rfl) (by kernel_rfl) (by exact fun _ _ _ h => h) (by rfl) ?_ ?_; rotate_left; focus (intro w hSw; go_simp; try with_reducible rfl))
    simp only [Act.put, List.setIfInBounds_toArray, List.set_cons_zero, List.set_cons_succ]
    (refine regt_take 2 (v := ?_) (by rfl) (by kernel_rfl) (by kernel_rfl) (by kernel_rfl) (by exact fun _ _ _ h => h) (by rfl) ?_ ?_; rotate_left; focus (intro w hSw; go_simp; try with_reducible rfl))
    simp only [Act.put, List.setIfInBounds_toArray, List.set_cons_zero, List.set_cons_succ]
    (refine regt_take 3 (v := ?_) (by rfl) (by kernel_rfl) (by kernel_rfl) (by kernel_rfl) (by exact fun _ _ _ h => h) (by rfl) ?_ ?_; rotate_left; focus (intro w hSw; go_simp; try with_reducible rfl))
    simp only [Act.put, List.setIfInBounds_toArray, List.set_cons_zero, List.set_cons_succ]
    refine regt_two 0 4 (by kernel_rfl) (by rfl) (by rfl) (fun K hK => ?_) (fun K hK => ?_)
    focus
      go_simp
      refine hK.out _ _ (trivial) ?_
      clear hK K
      try simp only [Act.put, List.setIfInBounds_toArray, List.set_cons_zero, List.set_cons_succ]
      refine regt_two 4 5 (by kernel_rfl) (by rfl) (by rfl) (fun K hK => ?_) (fun K hK => ?_)
      focus
        go_simp
        refine hK.out _ _ (trivial) ?_
        clear hK K
        try simp only [Act.put, List.setIfInBounds_toArray, List.set_cons_zero, List.set_cons_succ]
        refine regt_call 5 (by kernel_rfl) (by rfl) (fun K hK => ?_)
        go_simp
        refine hK.out _ _ (trivial) ?_
        clear hK K
        try simp only [Act.put, List.setIfInBounds_toArray, List.set_cons_zero, List.set_cons_succ]
        (refine regt_take 6 (v := ?_) (by rfl) (by kernel_rfl) (by kernel_rfl) (by kernel_rfl) (by exact fun _ _ _ h => h) (by rfl) ?_ ?_; rotate_left; focus (intro w hSw; go_simp; try with_reducible rfl))
        simp only [Act.put, List.setIfInBounds_toArray, List.set_cons_zero, List.set_cons_succ]
        (refine regt_take 7 (v := ?_) (by rfl) (by kernel_rfl) (by kernel_rfl) (by kernel_rfl) (by exact fun _ _ _ h => h) (by rfl) ?_ ?_; rotate_left; focus (intro w hSw; go_simp; try with_reducible rfl))
        simp only [Act.put, List.setIfInBounds_toArray, List.set_cons_zero, List.set_cons_succ]
        refine wpAnyH_done (by kernel_rfl) ?_ _
      rotate_left 1
      focus
        go_simp
        refine hK.out _ _ (trivial) ?_
        clear hK K
        try simp only [Act.put, List.setIfInBounds_toArray, List.set_cons_zero, List.set_cons_succ]
        refine regt_call 4 (by kernel_rfl) (by rfl) (fun K hK => ?_)
        go_simp
        refine hK.out _ _ (trivial) ?_
        clear hK K
        try simp only [Act.put, List.setIfInBounds_toArray, List.set_cons_zero, List.set_cons_succ]
        (refine regt_take 6 (v := ?_) (by rfl) (by kernel_rfl) (by kernel_rfl) (by kernel_rfl) (by exact fun _ _ _ h => h) (by rfl) ?_ ?_; rotate_left; focus (intro w hSw; go_simp; try with_reducible rfl))
        simp only [Act.put, List.setIfInBounds_toArray, List.set_cons_zero, List.set_cons_succ]
        (refine regt_take 7 (v := ?_) (by rfl) (by kernel_rfl) (by kernel_rfl) (by kernel_rfl) (by exact fun _ _ _ h => h) (by rfl) ?_ ?_; rotate_left; focus (intro w hSw; go_simp; try with_reducible rfl))
        simp only [Act.put, List.setIfInBounds_toArray, List.set_cons_zero, List.set_cons_succ]
        refine wpAnyH_done (by kernel_rfl) ?_ _
    rotate_left 2
    focus
      go_simp
      refine hK.out _ _ (trivial) ?_
      clear hK K
      try simp only [Act.put, List.setIfInBounds_toArray, List.set_cons_zero, List.set_cons_succ]
      refine regt_call 0 (by kernel_rfl) (by rfl) (fun K hK => ?_)
      go_simp
      refine hK.out _ _ (trivial) ?_
      clear hK K
      try simp only [Act.put, List.setIfInBounds_toArray, List.set_cons_zero, List.set_cons_succ]
      refine regt_call 5 (by kernel_rfl) (by rfl) (fun K hK => ?_)
      go_simp
      refine hK.out _ _ (trivial) ?_
      clear hK K
      try simp only [Act.put, List.setIfInBounds_toArray, List.set_cons_zero, List.set_cons_succ]
      (refine regt_take 6 (v := ?_) (by rfl) (by kernel_rfl) (by kernel_rfl) (by kernel_rfl) (by exact fun _ _ _ h => h) (by rfl) ?_ ?_; rotate_left; focus (intro w hSw; go_simp; try with_reducible rfl))
      simp only [Act.put, List.setIfInBounds_toArray, List.set_cons_zero, List.set_cons_succ]
      (refine regt_take 7 (v := ?_) (by rfl) (by kernel_rfl) (by kernel_rfl) (by kernel_rfl) (by exact fun _ _ _ h => h) (by rfl) ?_ ?_; rotate_left; focus (intro w hSw; go_simp; try with_reducible rfl))
      simp only [Act.put, List.setIfInBounds_toArray, List.set_cons_zero, List.set_cons_succ]
      refine wpAnyH_done (by kernel_rfl) ?_ _
    all_goals
      go_wp2_with fail
      refine bodyPost_ret (v := .tuple #[.agg #[.int .u16 (p.1.id : Int), .string (str p.1.space), .string (str p.1.name), .slice A1 n1 c1, .slice A2 n2 c2], .slice AX nX cX, .int .i64 0]) (by simp [results, Tryd.results51]; go_simp) rfl ?_
      exact ⟨A1, n1, c1, A2, n2, c2, AX, nX, cX, rfl, HO5.out.after (Below.drew (Below.alloc (Below.refl _ _) (Nat.le_refl _) _)), HX5.out.after (Below.drew (Below.alloc (Below.refl _ _) (Nat.le_refl _) _)), Below.drew (Below.alloc HB5.out (by simp; omega) _)⟩
end Go.Proofs.Sb
