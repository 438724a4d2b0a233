/- Walks over option.reader's short, text. Conditions: lengths up to 2^47. -/
import Derived.Test.YtenhgcgdhaegaaaDoorOpts
import Derived.Test.YtenhgcgdhaegaaaDoorRole
import Derived.Test.YtenhgcgdhaegaaaDoorPrims
set_option linter.unusedVariables false
set_option linter.unusedSimpArgs false
namespace Sb
def shortV : Wr → Nat | .ok cur => rval 0 (getN 2 cur) | .error _ => 0
def shortR : Wr → Wr | .ok cur => (match getN 2 cur with | .ok x => .ok x.2 | .error e => .error e) | .error e => .error e
def textV : Wr → B | .ok cur => rval [] (getText cur) | .error _ => []
def textR : Wr → Wr | .ok cur => (match getText cur with | .ok x => .ok x.2 | .error e => .error e) | .error e => .error e
theorem shortV_ok {cur : B} {r : Res Nat} (h : getN 2 cur = r) : shortV (.ok cur) = rval 0 r := by subst h; rfl
theorem shortR_ok {cur : B} {x : Nat × B} (h : getN 2 cur = .ok x) : shortR (.ok cur) = .ok x.2 := by simp only [shortR, h]
theorem shortR_err {cur : B} {e : Int} (h : getN 2 cur = .error e) : shortR (.ok cur) = .error e := by simp only [shortR, h]
theorem textV_ok {cur : B} {r : Res B} (h : getText cur = r) : textV (.ok cur) = rval [] r := by subst h; rfl
theorem textR_ok {cur : B} {x : B × B} (h : getText cur = .ok x) : textR (.ok cur) = .ok x.2 := by simp only [textR, h]
theorem textR_err {cur : B} {e : Int} (h : getText cur = .error e) : textR (.ok cur) = .error e := by simp only [textR, h]
end Sb
namespace Go.Proofs.Sb
open Go.RowKit _root_.Sb

/-- the reader at block X: what is left, or its error -/
def RdAt (S : Nat → Prop) (w : World) (X : Nat) (s : Wr) : Prop := ∃ A n c, w.cell? ⟨X, 0, none⟩ = some (.slice A n c) ∧ w.cell? ⟨X, 1, none⟩ = some (.int .i64 (werr s)) ∧ (∀ o, w.frozen? ⟨X, o, none⟩ = false) ∧ (∀ cur, s = .ok cur → Sl S w A n c cur ∧ n ≤ 140737488355328) ∧ (∀ e, s = .error e → e ≠ 0)
section
variable {S : Nat → Prop} {w w' : World} {X : Nat} {s : Wr}
theorem RdAt.lt (h : RdAt S w X s) : X < w.heap.size := by
  obtain ⟨A, n, c, h0, _⟩ := h
  exact World.block_lt_of_cell? w ⟨X, 0, none⟩ h0
theorem RdAt.after (h : RdAt S w X s) (hb : Below w.heap.size w w') : RdAt S w' X s := by
  have hlt := h.lt
  obtain ⟨A, n, c, h0, h1, h2, h3, h4⟩ := h
  exact ⟨A, n, c, kcell hb h0, kcell hb h1, fun o => kfroz hb hlt (h2 o), fun cur e => ⟨(h3 cur e).1.after hb, (h3 cur e).2⟩, h4⟩
theorem RdAt.grown {row : Option Nat} (h : RdAt S w X s) (hg : w.grownBy w' row) (hr : row ≠ some X) (hS : ∀ b, S b → row ≠ some b) : RdAt S w' X s := by
  have hlt := h.lt
  obtain ⟨A, n, c, h0, h1, h2, h3, h4⟩ := h
  have gc : ∀ {o v}, w.cell? ⟨X, o, none⟩ = some v → w'.cell? ⟨X, o, none⟩ = some v := fun h => (World.cell?_of_block (hg.block X hlt fun e => hr e.symm)).trans h
  exact ⟨A, n, c, gc h0, gc h1, fun o => gfroz hg (fun e => hr e.symm) hlt (h2 o), fun cur e => ⟨(h3 cur e).1.grown hg (fun b hb e => hS b hb e.symm), (h3 cur e).2⟩, h4⟩
end
theorem set2 {u0 u1 : Value} (S : Nat → Prop) (w : World) (X : Nat) (A : Option Addr) (n c : Nat) (e : Int) (s : Wr) (he : werr s = e) (h0 : w.cell? ⟨X, 0, none⟩ = some u0) (h1 : w.cell? ⟨X, 1, none⟩ = some u1) (hf : ∀ o, w.frozen? ⟨X, o, none⟩ = false) (hS : ∀ b, S b → b ≠ X)
    (hc : ∀ cur, s = .ok cur → Sl S w A n c cur ∧ n ≤ 140737488355328) (hn : ∀ e, s = .error e → e ≠ 0) : RdAt S ((w.setCell ⟨X, 0, none⟩ (.slice A n c)).setCell ⟨X, 1, none⟩ (.int .i64 e)) X s := by
  subst he
  exact ⟨A, n, c, by go_simp, by go_simp, fun o => by simp [hf], fun cur e => ⟨((hc cur e).1.setCell (fun b h => hS b h) _).setCell (fun b h => hS b h) _, (hc cur e).2⟩, hn⟩
theorem grow_set2 {w w1 : World} {X : Nat} {row : Option Nat} (hb : Below w.heap.size w w1) (u v : Value) : w.grownBy ((w1.setCell ⟨X, 0, none⟩ u).setCell ⟨X, 1, none⟩ v) (some X) :=
  grow_seq (grow_seq (grow_of_below (row := some X) hb) (grow_setCell _ X 0 u) fun j e => .inr e) (grow_setCell _ X 1 v) fun j e => .inr e
set_option maxRecDepth 100000 in
theorem rshort_any {S : Nat → Prop} {w : World} {X : Nat} {s : Wr} (h : RdAt S w X s) (hS : ∀ b, S b → b ≠ X) :
    Calls Tryd.prog 88 #[.pointer (some ⟨X, 0, none⟩)] w fun e w' => e = .returned (.int .u64 (shortV s : Nat)) ∧ RdAt S w' X (shortR s) ∧ w.grownBy w' (some X) := by
  have hlt := h.lt
  have HA := Lib.hid h
  have HS := Lib.hid hS; clear hS
  obtain ⟨A, n, c, h0, h1, h2, h3, h4⟩ := h
  have H2 := Lib.hid h2
  have f0 := h2 0
  have f1 := h2 1
  clear h2
  cases s with
  | error e =>
    have hne : e ≠ 0 := h4 e rfl
    simp only [werr_error] at h1
    clear h3 h4
    go_enter Tryd.func88, Tryd.ntmps88
    go_wp2_with fail
    go_ret
    exact ⟨rfl, HA.out, World.grownBy.refl _ _⟩
  | ok cur =>
    simp only [werr_ok] at h1
    obtain ⟨h3, hm⟩ := h3 cur rfl
    clear h4
    have H3 := Lib.hid h3; clear h3
    obtain ⟨r, hr⟩ : ∃ r, getN 2 cur = r := ⟨_, rfl⟩
    have HR := Lib.hid hr; clear hr
    go_enter Tryd.func88, Tryd.ntmps88
    go_wp2_with fail
    refine (get_any H3.out (by omega) (by omega) r HR.out).mono ?_
    rintro e w1 ⟨A2, m2, c2, rfl, hs2, hb⟩
    have g0 := kcell hb h0
    have g1 := kcell hb h1
    have k0 := kfroz hb hlt f0
    have k1 := kfroz hb hlt f1
    have hf : ∀ o, w1.frozen? ⟨X, o, none⟩ = false := fun o => kfroz hb hlt (H2.out o)
    have HF := Lib.hid hf; clear hf
    have HS2 := Lib.hid hs2; clear hs2
    have hl2 := HS2.out.len
    have HL2 := Lib.hid hl2; clear hl2
    have hl3 := H3.out.len
    have HL3 := Lib.hid hl3; clear hl3
    go_wp2_with fail
    go_ret
    refine ⟨by rw [shortV_ok HR.out]; rfl, set2 S w1 X A2 m2 c2 (rerr r) (shortR (.ok cur)) (by cases r with | ok x => rw [shortR_ok HR.out]; rfl | error e => rw [shortR_err HR.out]; rfl) g0 g1 HF.out HS.out (fun cu e => ?_) (fun e he => ?_), grow_set2 (row := none) hb _ _⟩
    · cases r with
      | error e1 => rw [shortR_err HR.out] at e; cases e
      | ok x =>
        rw [shortR_ok HR.out] at e
        injection e with e
        subst e
        have := (getN_ok HR.out).2.2.1
        refine ⟨HS2.out, ?_⟩
        have a := HL2.out
        have b := HL3.out
        rw [rrest_ok, this, List.length_drop] at a
        omega
    · cases r with
      | error e1 => rw [shortR_err HR.out] at he; injection he with he; subst he; have := getN_err HR.out; omega
      | ok x => rw [shortR_ok HR.out] at he; cases he
set_option maxRecDepth 100000 in
theorem rdtext_any {S : Nat → Prop} {w : World} {X : Nat} {s : Wr} (h : RdAt S w X s) (hS : ∀ b, S b → b ≠ X) :
    Calls Tryd.prog 90 #[.pointer (some ⟨X, 0, none⟩)] w fun e w' => e = .returned (.string (str (textV s))) ∧ RdAt S w' X (textR s) ∧ w.grownBy w' (some X) := by
  have hlt := h.lt
  have HA := Lib.hid h
  have HS := Lib.hid hS; clear hS
  obtain ⟨A, n, c, h0, h1, h2, h3, h4⟩ := h
  have H2 := Lib.hid h2
  have f0 := h2 0
  have f1 := h2 1
  clear h2
  cases s with
  | error e =>
    have hne : e ≠ 0 := h4 e rfl
    simp only [werr_error] at h1
    clear h3 h4
    go_enter Tryd.func90, Tryd.ntmps90
    go_wp2_with fail
    go_ret
    exact ⟨rfl, HA.out, World.grownBy.refl _ _⟩
  | ok cur =>
    simp only [werr_ok] at h1
    obtain ⟨h3, hm⟩ := h3 cur rfl
    clear h4
    have H3 := Lib.hid h3; clear h3
    obtain ⟨r, hr⟩ : ∃ r, getText cur = r := ⟨_, rfl⟩
    have HR := Lib.hid hr; clear hr
    go_enter Tryd.func90, Tryd.ntmps90
    go_wp2_with fail
    refine (getText_any H3.out hm r HR.out).mono ?_
    rintro e w1 ⟨A2, m2, c2, rfl, hs2, hb⟩
    have g0 := kcell hb h0
    have g1 := kcell hb h1
    have k0 := kfroz hb hlt f0
    have k1 := kfroz hb hlt f1
    have hf : ∀ o, w1.frozen? ⟨X, o, none⟩ = false := fun o => kfroz hb hlt (H2.out o)
    have HF := Lib.hid hf; clear hf
    have HS2 := Lib.hid hs2; clear hs2
    have hl2 := HS2.out.len
    have HL2 := Lib.hid hl2; clear hl2
    have hl3 := H3.out.len
    have HL3 := Lib.hid hl3; clear hl3
    go_wp2_with fail
    go_ret
    refine ⟨by rw [textV_ok HR.out]; rfl, set2 S w1 X A2 m2 c2 (rerr r) (textR (.ok cur)) (by cases r with | ok x => rw [textR_ok HR.out]; rfl | error e => rw [textR_err HR.out]; rfl) g0 g1 HF.out HS.out (fun cu e => ?_) (fun e he => ?_), grow_set2 (row := none) hb _ _⟩
    · cases r with
      | error e1 => rw [textR_err HR.out] at e; cases e
      | ok x =>
        rw [textR_ok HR.out] at e
        injection e with e
        subst e
        have := (getText_ok HR.out).2.1
        refine ⟨HS2.out, ?_⟩
        have a := HL2.out
        have b := HL3.out
        rw [rrest_ok] at a
        omega
    · cases r with
      | error e1 => rw [textR_err HR.out] at he; injection he with he; subst he; exact gt_ne HR.out
      | ok x => rw [textR_ok HR.out] at he; cases he
end Go.Proofs.Sb
