/- Walks over request.read at each of its types, and reader's number, short, must. Conditions: lengths up to 2^47. (written by gen_rqread.py) -/
import Derived.Test.YtdgmkmadlnmhbaaRqm
import Derived.Test.YtdgmkmadlnmhbaaOptg
import Derived.Test.YtdgmkmadlnmhbaaRole
import Derived.Test.YtdgmkmadlnmhbaaPrims
import Derived.Test.YtdgmkmadlnmhbaaPrimsb
import Derived.Test.YtdgmkmadlnmhbaaMapsd
set_option linter.unusedVariables false
set_option linter.unusedSimpArgs false
namespace Sb
/-- a reading that may be: its errors are errors, and it goes ahead -/
structure Gd {α : Type} (g : B → Res α) : Prop where
  ne : ∀ {b : B} {e : Int}, g b = .error e → e ≠ 0
  len : ∀ {b : B} {x : α} {r : B}, g b = .ok (x, r) → r.length ≤ b.length
theorem Gd.of_fore {α : Type} {f : α → Wr} {g : B → Res α} (hn : ∀ {b : B} {e : Int}, g b = .error e → e ≠ 0) (F : Fore f g) : Gd g :=
  ⟨hn, fun {b x r} h => by obtain ⟨y, _, h2⟩ := F b x r h; rw [← h2, List.length_append]; omega⟩
theorem gdN (n : Nat) : Gd (getN n) := ⟨fun h => by have := getN_err h; omega, fun h => by have := getN_ok h; rw [this.2.2.1, List.length_drop]; omega⟩
theorem gdTake (n : Nat) : Gd (takeN n) := ⟨fun h => by have := takeN_err h; omega, fun h => by have := takeN_ok h; rw [this.2.2, List.length_drop]; omega⟩
theorem gdText : Gd getText := .of_fore gt_ne text_fore
theorem getLong_e {b : B} {e : Int} (h : getLong b = .error e) : e ≠ 0 := by
  unfold getLong at h
  cases h1 : getNum b with
  | error e1 => rw [h1] at h; injection h with h; subst h; have := getNum_err h1; omega
  | ok p =>
    obtain ⟨n, r⟩ := p
    rw [h1] at h
    simp only at h
    split at h
    · injection h with h; omega
    · have := takeN_err h; omega
theorem gdLong : Gd getLong := .of_fore getLong_e long_fore
theorem getCons_e {b : B} {e : Int} (h : getCons b = .error e) : e ≠ 0 := by
  unfold getCons at h
  cases h1 : getN 2 b with
  | error e1 => rw [h1] at h; injection h with h; subst h; have := getN_err h1; omega
  | ok p =>
    obtain ⟨n, r⟩ := p
    rw [h1] at h
    simp only at h
    split at h
    · injection h with h; omega
    · cases h
theorem gdCons : Gd getCons := .of_fore getCons_e cons_fore
theorem gR_werr {α : Type} {g : B → Res α} {cur : B} {r : Res α} (h : g cur = r) : werr (gR g (.ok cur)) = rerr r := by
  cases r with
  | ok x => rw [gR_ok h]; rfl
  | error e => rw [gR_err h]; rfl
end Sb
namespace Go.Proofs.Sb
open Go.RowKit _root_.Sb

theorem gdValue : Gd getValue := .of_fore gv_ne value_fore
theorem gdTexts : Gd getTexts := .of_fore gts_ne texts_fore
theorem gdPairs : Gd (getL pairR) := .of_fore (getL_ne fun _ _ h => pr_ne h) pairs_fore
theorem Goes.grown {F : (Nat → Prop) → World → Prop} (G : Goes F) {S : Nat → Prop} {w w' : World} {X : Nat} (h : F S w) (hg : w.grownBy w' (some X)) (hS : ∀ b, S b → b ≠ X) : F S w' :=
  G.keep h hg.size fun b hs hb => hg.block b hb fun e => hS b hs (by injection e)
theorem grow2 {w : World} (X : Nat) (u v : Value) : w.grownBy ((w.setCell ⟨X, 0, none⟩ u).setCell ⟨X, 1, none⟩ v) (some X) := grow_set2 (row := none) (Below.refl _ _) u v
theorem set2g {α : Type} {g : B → Res α} (G : Gd g) {u0 u1 : Value} (S : Nat → Prop) (w : World) (X : Nat) (A : Option Addr) (n c : Nat) {cur : B} {r : Res α} (hr : g cur = r) (h0 : w.cell? ⟨X, 0, none⟩ = some u0) (h1 : w.cell? ⟨X, 1, none⟩ = some u1) (hf : ∀ o, w.frozen? ⟨X, o, none⟩ = false) (hS : ∀ b, S b → b ≠ X)
    (hs : Sl S w A n c (rrest r)) (hl : cur.length ≤ 140737488355328) : RdAt S ((w.setCell ⟨X, 0, none⟩ (.slice A n c)).setCell ⟨X, 1, none⟩ (.int .i64 (rerr r))) X (gR g (.ok cur)) := by
  refine set2 S w X A n c (rerr r) (gR g (.ok cur)) (gR_werr hr) h0 h1 hf hS (fun cu e => ?_) (fun e he => ?_)
  · cases r with
    | error e1 => rw [gR_err hr] at e; cases e
    | ok x =>
      rw [gR_ok hr] at e
      injection e with e
      subst e
      obtain ⟨x1, x2⟩ := x
      have := G.len hr
      have := hs.len
      exact ⟨hs, by simp only [rrest_ok] at *; omega⟩
  · cases r with
    | error e1 => rw [gR_err hr] at he; injection he with he; subst he; exact G.ne hr
    | ok x => rw [gR_ok hr] at he; cases he

set_option maxHeartbeats 2000000 in
set_option maxRecDepth 100000 in
theorem rdx_text {S : Nat → Prop} {w : World} {X : Nat} {s : Wr} (h : RdAt S w X s) (hS : ∀ b, S b → b ≠ X) :
    Calls Try.prog 37 #[.pointer (some ⟨X, 0, none⟩), .func (.func 70) #[] #[]] w fun e w' => e = .returned (.string (str (gV [] getText s))) ∧ RdAt S w' X (gR getText s) ∧ w.grownBy w' (some X) := by
  have hlt := h.lt
  have HA := Lib.hid h
  have HS := Lib.hid hS; clear hS
  obtain ⟨A, n, c, h0, h1, h2, h3, h4⟩ := h
  have H2 := Lib.hid h2
  have f0 := h2 0
  have f1 := h2 1
  clear h2
  cases s with
  | error e =>
    have hne : e ≠ 0 := h4 e rfl
    simp only [werr_error] at h1
    clear h3 h4
    go_enter Try.func37, Try.ntmps37
    go_wp2_with fail
    go_ret
    exact ⟨rfl, HA.out, World.grownBy.refl _ _⟩
  | ok cur =>
    simp only [werr_ok] at h1
    obtain ⟨h3, hm⟩ := h3 cur rfl
    clear h4
    have H3 := Lib.hid h3; clear h3
    obtain ⟨r, hr⟩ : ∃ r, getText cur = r := ⟨_, rfl⟩
    have HR := Lib.hid hr; clear hr
    go_enter Try.func37, Try.ntmps37
    go_wp2_with fail
    refine (getText_any H3.out hm r HR.out).mono ?_
    rintro e w1 ⟨A2, m2, c2, rfl, hs2, hb⟩
    have g0 := kcell hb h0
    have g1 := kcell hb h1
    have k0 := kfroz hb hlt f0
    have k1 := kfroz hb hlt f1
    have HRD := Lib.hid (set2g gdText S w1 X A2 m2 c2 HR.out g0 g1 (fun o => kfroz hb hlt (H2.out o)) HS.out hs2 (by have := H3.out.len; omega))
    clear hs2
    cases r with
    | error er =>
      have hne : er ≠ 0 := gdText.ne HR.out
      simp only [rval_error, rerr_error] at HRD ⊢
      go_wp2_with fail
      go_ret
      exact ⟨by rw [gV_ok HR.out]; rfl, HRD.out, grow_set2 (row := none) hb _ _⟩
    | ok x =>
      simp only [rval_ok, rerr_ok] at HRD ⊢
      go_wp2_with fail
      go_ret
      exact ⟨by rw [gV_ok HR.out]; rfl, HRD.out, grow_set2 (row := none) hb _ _⟩

set_option maxHeartbeats 2000000 in
set_option maxRecDepth 100000 in
theorem rdx_long {S : Nat → Prop} {w : World} {X : Nat} {s : Wr} (h : RdAt S w X s) (hS : ∀ b, S b → b ≠ X) :
    Calls Try.prog 37 #[.pointer (some ⟨X, 0, none⟩), .func (.func 38) #[] #[]] w fun e w' => e = .returned (.string (str (gV [] getLong s))) ∧ RdAt S w' X (gR getLong s) ∧ w.grownBy w' (some X) := by
  have hlt := h.lt
  have HA := Lib.hid h
  have HS := Lib.hid hS; clear hS
  obtain ⟨A, n, c, h0, h1, h2, h3, h4⟩ := h
  have H2 := Lib.hid h2
  have f0 := h2 0
  have f1 := h2 1
  clear h2
  cases s with
  | error e =>
    have hne : e ≠ 0 := h4 e rfl
    simp only [werr_error] at h1
    clear h3 h4
    go_enter Try.func37, Try.ntmps37
    go_wp2_with fail
    go_ret
    exact ⟨rfl, HA.out, World.grownBy.refl _ _⟩
  | ok cur =>
    simp only [werr_ok] at h1
    obtain ⟨h3, hm⟩ := h3 cur rfl
    clear h4
    have H3 := Lib.hid h3; clear h3
    obtain ⟨r, hr⟩ : ∃ r, getLong cur = r := ⟨_, rfl⟩
    have HR := Lib.hid hr; clear hr
    go_enter Try.func37, Try.ntmps37
    go_wp2_with fail
    refine (getLong_any H3.out hm r HR.out).mono ?_
    rintro e w1 ⟨A2, m2, c2, rfl, hs2, hb⟩
    have g0 := kcell hb h0
    have g1 := kcell hb h1
    have k0 := kfroz hb hlt f0
    have k1 := kfroz hb hlt f1
    have HRD := Lib.hid (set2g gdLong S w1 X A2 m2 c2 HR.out g0 g1 (fun o => kfroz hb hlt (H2.out o)) HS.out hs2 (by have := H3.out.len; omega))
    clear hs2
    cases r with
    | error er =>
      have hne : er ≠ 0 := gdLong.ne HR.out
      simp only [rval_error, rerr_error] at HRD ⊢
      go_wp2_with fail
      go_ret
      exact ⟨by rw [gV_ok HR.out]; rfl, HRD.out, grow_set2 (row := none) hb _ _⟩
    | ok x =>
      simp only [rval_ok, rerr_ok] at HRD ⊢
      go_wp2_with fail
      go_ret
      exact ⟨by rw [gV_ok HR.out]; rfl, HRD.out, grow_set2 (row := none) hb _ _⟩

set_option maxHeartbeats 2000000 in
set_option maxRecDepth 100000 in
theorem rdx_cons {S : Nat → Prop} {w : World} {X : Nat} {s : Wr} (h : RdAt S w X s) (hS : ∀ b, S b → b ≠ X) :
    Calls Try.prog 73 #[.pointer (some ⟨X, 0, none⟩), .func (.func 74) #[] #[]] w fun e w' => e = .returned (.int .u16 (gV 0 getCons s : Nat)) ∧ RdAt S w' X (gR getCons s) ∧ w.grownBy w' (some X) := by
  have hlt := h.lt
  have HA := Lib.hid h
  have HS := Lib.hid hS; clear hS
  obtain ⟨A, n, c, h0, h1, h2, h3, h4⟩ := h
  have H2 := Lib.hid h2
  have f0 := h2 0
  have f1 := h2 1
  clear h2
  cases s with
  | error e =>
    have hne : e ≠ 0 := h4 e rfl
    simp only [werr_error] at h1
    clear h3 h4
    go_enter Try.func73, Try.ntmps73
    go_wp2_with fail
    go_ret
    exact ⟨rfl, HA.out, World.grownBy.refl _ _⟩
  | ok cur =>
    simp only [werr_ok] at h1
    obtain ⟨h3, hm⟩ := h3 cur rfl
    clear h4
    have H3 := Lib.hid h3; clear h3
    obtain ⟨r, hr⟩ : ∃ r, getCons cur = r := ⟨_, rfl⟩
    have HR := Lib.hid hr; clear hr
    go_enter Try.func73, Try.ntmps73
    go_wp2_with fail
    refine (getCons_any H3.out r HR.out).mono ?_
    rintro e w1 ⟨A2, m2, c2, rfl, hs2, hb⟩
    have g0 := kcell hb h0
    have g1 := kcell hb h1
    have k0 := kfroz hb hlt f0
    have k1 := kfroz hb hlt f1
    have HRD := Lib.hid (set2g gdCons S w1 X A2 m2 c2 HR.out g0 g1 (fun o => kfroz hb hlt (H2.out o)) HS.out hs2 (by have := H3.out.len; omega))
    clear hs2
    cases r with
    | error er =>
      have hne : er ≠ 0 := gdCons.ne HR.out
      simp only [rval_error, rerr_error] at HRD ⊢
      go_wp2_with fail
      go_ret
      exact ⟨by rw [gV_ok HR.out]; rfl, HRD.out, grow_set2 (row := none) hb _ _⟩
    | ok x =>
      simp only [rval_ok, rerr_ok] at HRD ⊢
      go_wp2_with fail
      go_ret
      exact ⟨by rw [gV_ok HR.out]; rfl, HRD.out, grow_set2 (row := none) hb _ _⟩

set_option maxHeartbeats 2000000 in
set_option maxRecDepth 100000 in
theorem rdx_pairs {S : Nat → Prop} {w : World} {X : Nat} {s : Wr} (h : RdAt S w X s) (hS : ∀ b, S b → b ≠ X) :
    Calls Try.prog 35 #[.pointer (some ⟨X, 0, none⟩), .func (.func 36) #[] #[]] w fun e w' => (∃ A1 n1 c1, e = .returned (.slice A1 n1 c1) ∧ Arr 2 pairP (fun b => w.heap.size ≤ b) w' A1 n1 c1 (gV [] (getL pairR) s)) ∧ RdAt S w' X (gR (getL pairR) s) ∧ w.grownBy w' (some X) := by
  have hlt := h.lt
  have HA := Lib.hid h
  have HS := Lib.hid hS; clear hS
  obtain ⟨A, n, c, h0, h1, h2, h3, h4⟩ := h
  have H2 := Lib.hid h2
  have f0 := h2 0
  have f1 := h2 1
  clear h2
  cases s with
  | error e =>
    have hne : e ≠ 0 := h4 e rfl
    simp only [werr_error] at h1
    clear h3 h4
    go_enter Try.func35, Try.ntmps35
    go_wp2_with fail
    go_ret
    exact ⟨⟨none, 0, 0, rfl, Arr.nil⟩, HA.out, World.grownBy.refl _ _⟩
  | ok cur =>
    simp only [werr_ok] at h1
    obtain ⟨h3, hm⟩ := h3 cur rfl
    clear h4
    have H3 := Lib.hid h3; clear h3
    obtain ⟨r, hr⟩ : ∃ r, (getL pairR) cur = r := ⟨_, rfl⟩
    have HR := Lib.hid hr; clear hr
    go_enter Try.func35, Try.ntmps35
    go_wp2_with fail
    refine (getPairs_any H3.out hm r HR.out).mono ?_
    rintro e w1 ⟨A1, m1, c1, A2, m2, c2, rfl, ho, hs2, hb⟩
    have g0 := kcell hb h0
    have g1 := kcell hb h1
    have k0 := kfroz hb hlt f0
    have k1 := kfroz hb hlt f1
    have HRD := Lib.hid (set2g gdPairs S w1 X A2 m2 c2 HR.out g0 g1 (fun o => kfroz hb hlt (H2.out o)) HS.out hs2 (by have := H3.out.len; omega))
    clear hs2
    cases r with
    | error er =>
      have hne : er ≠ 0 := gdPairs.ne HR.out
      simp only [rval_error, rerr_error] at HRD ho ⊢
      go_wp2_with fail
      go_ret
      exact ⟨⟨none, 0, 0, rfl, by rw [gV_ok HR.out]; exact Arr.nil⟩, HRD.out, grow_set2 (row := none) hb _ _⟩
    | ok x =>
      simp only [rval_ok, rerr_ok] at HRD ho ⊢
      go_wp2_with fail
      go_ret
      exact ⟨⟨A1, m1, c1, rfl, goesArr.grown (by rw [gV_ok HR.out]; exact ho) (grow2 X _ _) (fun b hb e => by omega)⟩, HRD.out, grow_set2 (row := none) hb _ _⟩

set_option maxHeartbeats 2000000 in
set_option maxRecDepth 100000 in
theorem rdx_texts {S : Nat → Prop} {w : World} {X : Nat} {s : Wr} (h : RdAt S w X s) (hS : ∀ b, S b → b ≠ X) :
    Calls Try.prog 41 #[.pointer (some ⟨X, 0, none⟩), .func (.func 42) #[] #[]] w fun e w' => (∃ A1 n1 c1, e = .returned (.slice A1 n1 c1) ∧ Arr 1 strP (fun b => w.heap.size ≤ b) w' A1 n1 c1 (gV [] getTexts s)) ∧ RdAt S w' X (gR getTexts s) ∧ w.grownBy w' (some X) := by
  have hlt := h.lt
  have HA := Lib.hid h
  have HS := Lib.hid hS; clear hS
  obtain ⟨A, n, c, h0, h1, h2, h3, h4⟩ := h
  have H2 := Lib.hid h2
  have f0 := h2 0
  have f1 := h2 1
  clear h2
  cases s with
  | error e =>
    have hne : e ≠ 0 := h4 e rfl
    simp only [werr_error] at h1
    clear h3 h4
    go_enter Try.func41, Try.ntmps41
    go_wp2_with fail
    go_ret
    exact ⟨⟨none, 0, 0, rfl, Arr.nil⟩, HA.out, World.grownBy.refl _ _⟩
  | ok cur =>
    simp only [werr_ok] at h1
    obtain ⟨h3, hm⟩ := h3 cur rfl
    clear h4
    have H3 := Lib.hid h3; clear h3
    obtain ⟨r, hr⟩ : ∃ r, getTexts cur = r := ⟨_, rfl⟩
    have HR := Lib.hid hr; clear hr
    go_enter Try.func41, Try.ntmps41
    go_wp2_with fail
    refine (getTexts_any H3.out hm r HR.out).mono ?_
    rintro e w1 ⟨A1, m1, c1, A2, m2, c2, rfl, ho', hs2, hb⟩
    have ho := (ho'.arr (by decide)).mono (S' := fun b => w.heap.size ≤ b) fun b hb _ => hb.1
    clear ho'
    have g0 := kcell hb h0
    have g1 := kcell hb h1
    have k0 := kfroz hb hlt f0
    have k1 := kfroz hb hlt f1
    have HRD := Lib.hid (set2g gdTexts S w1 X A2 m2 c2 HR.out g0 g1 (fun o => kfroz hb hlt (H2.out o)) HS.out hs2 (by have := H3.out.len; omega))
    clear hs2
    cases r with
    | error er =>
      have hne : er ≠ 0 := gdTexts.ne HR.out
      simp only [rval_error, rerr_error] at HRD ho ⊢
      go_wp2_with fail
      go_ret
      exact ⟨⟨none, 0, 0, rfl, by rw [gV_ok HR.out]; exact Arr.nil⟩, HRD.out, grow_set2 (row := none) hb _ _⟩
    | ok x =>
      simp only [rval_ok, rerr_ok] at HRD ho ⊢
      go_wp2_with fail
      go_ret
      exact ⟨⟨A1, m1, c1, rfl, goesArr.grown (by rw [gV_ok HR.out]; exact ho) (grow2 X _ _) (fun b hb e => by omega)⟩, HRD.out, grow_set2 (row := none) hb _ _⟩

set_option maxRecDepth 100000 in
theorem num1_any {S : Nat → Prop} {A : Option Addr} {m c p k : Nat} {bs : B} {w : World} (hs : Sl S w A m c bs) (hp : w.cell? ⟨p, 0, none⟩ = some (.int .i64 (k : Int))) (h1 : 1 ≤ k) (h2 : k ≤ 8) (r : Res Nat) (hr : getN k bs = r) :
    Calls Try.prog 82 #[.slice A m c, .pointer (some ⟨p, 0, none⟩)] w fun e w' => ∃ A' m' c', e = .returned (.tuple #[.int .u64 (rval 0 r : Nat), .slice A' m' c', .int .i64 (rerr r)]) ∧ Sl S w' A' m' c' (rrest r) ∧ Below w.heap.size w w' := by
  have HS := Lib.hid hs; clear hs
  go_enter Try.func82, Try.ntmps82
  go_wp2_with fail
  refine (get_any HS.out h1 h2 r hr).mono ?_
  rintro e w1 ⟨A2, m2, c2, rfl, hs2, hb⟩
  go_wp2_with fail
  go_ret3
  exact ⟨_, _, _, rfl, hs2, hb⟩
set_option maxRecDepth 100000 in
theorem short1_any {S : Nat → Prop} {A : Option Addr} {m c p k : Nat} {bs : B} {w : World} (hs : Sl S w A m c bs) (hm : m ≤ 140737488355328) (hp : w.cell? ⟨p, 0, none⟩ = some (.int .u64 (k : Int))) (r : Res B) (hr : takeN k bs = r) :
    Calls Try.prog 78 #[.slice A m c, .pointer (some ⟨p, 0, none⟩)] w fun e w' => ∃ A1 m1 c1 A2 m2 c2, e = .returned (.tuple #[.slice A1 m1 c1, .slice A2 m2 c2, .int .i64 (rerr r)]) ∧ Own w.heap.size w' A1 m1 c1 (rval [] r) ∧ Sl S w' A2 m2 c2 (rrest r) ∧ Below w.heap.size w w' := by
  have HS := Lib.hid hs; clear hs
  go_enter Try.func78, Try.ntmps78
  go_wp2_with fail
  refine (take_any HS.out hm (k : Int) (by omega) r hr).mono ?_
  rintro e w1 ⟨A1, m1, c1, A2, m2, c2, rfl, ho, hs2, hb⟩
  go_wp2_with fail
  go_ret3
  exact ⟨_, _, _, _, _, _, rfl, ho, hs2, hb⟩

set_option maxHeartbeats 2000000 in
set_option maxRecDepth 100000 in
theorem rdx_u64 {S : Nat → Prop} {w : World} {X : Nat} {s : Wr} (h : RdAt S w X s) (hS : ∀ b, S b → b ≠ X) {p k : Nat} (hp : w.cell? ⟨p, 0, none⟩ = some (.int .i64 (k : Int))) (hk1 : 1 ≤ k) (hk8 : k ≤ 8) :
    Calls Try.prog 81 #[.pointer (some ⟨X, 0, none⟩), .func (.func 82) #[] #[.pointer (some ⟨p, 0, none⟩)]] w fun e w' => e = .returned (.int .u64 (gV 0 (getN k) s : Nat)) ∧ RdAt S w' X (gR (getN k) s) ∧ w.grownBy w' (some X) := by
  have hlt := h.lt
  have HA := Lib.hid h
  have HS := Lib.hid hS; clear hS
  obtain ⟨A, n, c, h0, h1, h2, h3, h4⟩ := h
  have H2 := Lib.hid h2
  have f0 := h2 0
  have f1 := h2 1
  clear h2
  cases s with
  | error e =>
    have hne : e ≠ 0 := h4 e rfl
    simp only [werr_error] at h1
    clear h3 h4
    go_enter Try.func81, Try.ntmps81
    go_wp2_with fail
    go_ret
    exact ⟨rfl, HA.out, World.grownBy.refl _ _⟩
  | ok cur =>
    simp only [werr_ok] at h1
    obtain ⟨h3, hm⟩ := h3 cur rfl
    clear h4
    have H3 := Lib.hid h3; clear h3
    obtain ⟨r, hr⟩ : ∃ r, (getN k) cur = r := ⟨_, rfl⟩
    have HR := Lib.hid hr; clear hr
    go_enter Try.func81, Try.ntmps81
    go_wp2_with fail
    refine (num1_any H3.out hp hk1 hk8 r HR.out).mono ?_
    rintro e w1 ⟨A2, m2, c2, rfl, hs2, hb⟩
    clear hp
    have g0 := kcell hb h0
    have g1 := kcell hb h1
    have k0 := kfroz hb hlt f0
    have k1 := kfroz hb hlt f1
    have HRD := Lib.hid (set2g (gdN k) S w1 X A2 m2 c2 HR.out g0 g1 (fun o => kfroz hb hlt (H2.out o)) HS.out hs2 (by have := H3.out.len; omega))
    clear hs2
    cases r with
    | error er =>
      have hne : er ≠ 0 := (gdN k).ne HR.out
      simp only [rval_error, rerr_error] at HRD ⊢
      go_wp2_with fail
      go_ret
      exact ⟨by rw [gV_ok HR.out]; rfl, HRD.out, grow_set2 (row := none) hb _ _⟩
    | ok x =>
      simp only [rval_ok, rerr_ok] at HRD ⊢
      go_wp2_with fail
      go_ret
      exact ⟨by rw [gV_ok HR.out]; rfl, HRD.out, grow_set2 (row := none) hb _ _⟩

set_option maxHeartbeats 2000000 in
set_option maxRecDepth 100000 in
theorem rdx_bytes {S : Nat → Prop} {w : World} {X : Nat} {s : Wr} (h : RdAt S w X s) (hS : ∀ b, S b → b ≠ X) {p k : Nat} (hp : w.cell? ⟨p, 0, none⟩ = some (.int .u64 (k : Int))) :
    Calls Try.prog 77 #[.pointer (some ⟨X, 0, none⟩), .func (.func 78) #[] #[.pointer (some ⟨p, 0, none⟩)]] w fun e w' => (∃ A1 n1 c1, e = .returned (.slice A1 n1 c1) ∧ Sl (fun b => w.heap.size ≤ b) w' A1 n1 c1 (gV [] (takeN k) s)) ∧ RdAt S w' X (gR (takeN k) s) ∧ w.grownBy w' (some X) := by
  have hlt := h.lt
  have HA := Lib.hid h
  have HS := Lib.hid hS; clear hS
  obtain ⟨A, n, c, h0, h1, h2, h3, h4⟩ := h
  have H2 := Lib.hid h2
  have f0 := h2 0
  have f1 := h2 1
  clear h2
  cases s with
  | error e =>
    have hne : e ≠ 0 := h4 e rfl
    simp only [werr_error] at h1
    clear h3 h4
    go_enter Try.func77, Try.ntmps77
    go_wp2_with fail
    go_ret
    exact ⟨⟨none, 0, 0, rfl, Sl.nil⟩, HA.out, World.grownBy.refl _ _⟩
  | ok cur =>
    simp only [werr_ok] at h1
    obtain ⟨h3, hm⟩ := h3 cur rfl
    clear h4
    have H3 := Lib.hid h3; clear h3
    obtain ⟨r, hr⟩ : ∃ r, (takeN k) cur = r := ⟨_, rfl⟩
    have HR := Lib.hid hr; clear hr
    go_enter Try.func77, Try.ntmps77
    go_wp2_with fail
    refine (short1_any H3.out hm hp r HR.out).mono ?_
    rintro e w1 ⟨A1, m1, c1, A2, m2, c2, rfl, ho', hs2, hb⟩
    have ho := ho'.sl
    clear hp ho'
    have g0 := kcell hb h0
    have g1 := kcell hb h1
    have k0 := kfroz hb hlt f0
    have k1 := kfroz hb hlt f1
    have HRD := Lib.hid (set2g (gdTake k) S w1 X A2 m2 c2 HR.out g0 g1 (fun o => kfroz hb hlt (H2.out o)) HS.out hs2 (by have := H3.out.len; omega))
    clear hs2
    cases r with
    | error er =>
      have hne : er ≠ 0 := (gdTake k).ne HR.out
      simp only [rval_error, rerr_error] at HRD ho ⊢
      go_wp2_with fail
      go_ret
      exact ⟨⟨none, 0, 0, rfl, by rw [gV_ok HR.out]; exact Sl.nil⟩, HRD.out, grow_set2 (row := none) hb _ _⟩
    | ok x =>
      simp only [rval_ok, rerr_ok] at HRD ho ⊢
      go_wp2_with fail
      go_ret
      exact ⟨⟨A1, m1, c1, rfl, goesSl.grown (by rw [gV_ok HR.out]; exact ho) (grow2 X _ _) (fun b hb e => by omega)⟩, HRD.out, grow_set2 (row := none) hb _ _⟩

theorem RdAt.monoS {S S' : Nat → Prop} {w : World} {X : Nat} {s : Wr} (h : RdAt S w X s) (hS : ∀ b, S b → S' b) : RdAt S' w X s := by
  obtain ⟨A, n, c, h0, h1, h2, h3, h4⟩ := h
  exact ⟨A, n, c, h0, h1, h2, fun cur e => ⟨(h3 cur e).1.mono fun b hb _ => hS b hb, (h3 cur e).2⟩, h4⟩
theorem grow_alloc {w w' : World} {X : Nat} {o : Obj} (h : (w.alloc o).grownBy w' (some X)) : w.grownBy w' (some X) := grow_seq (grow_of_below (row := some X) ((Below.refl _ _).alloc (Nat.le_refl _) o)) h fun j e => .inr e
set_option maxRecDepth 100000 in
theorem rnumq_any {S : Nat → Prop} {w : World} {X k : Nat} {s : Wr} (h : RdAt S w X s) (hS : ∀ b, S b → b ≠ X) (hk1 : 1 ≤ k) (hk8 : k ≤ 8) :
    Calls Try.prog 45 #[.pointer (some ⟨X, 0, none⟩), .int .i64 (k : Int)] w fun e w' => e = .returned (.int .u64 (gV 0 (getN k) s : Nat)) ∧ RdAt S w' X (gR (getN k) s) ∧ w.grownBy w' (some X) := by
  have HA := Lib.hid h; clear h
  have HS := Lib.hid hS; clear hS
  go_enter Try.func45, Try.ntmps45
  go_wp2_with fail
  refine (rdx_u64 (p := w.heap.size) (k := k) (HA.out.after (by repeat (first | exact Below.refl _ _ | assumption | refine Below.drew ?_ | refine below_drewN ?_ _ | refine Below.alloc ?_ (by first | (simp; done) | omega | (simp; omega)) _ | refine Below.setCell ?_ (by first | (simp; done) | omega | (simp; omega)) _))) HS.out (by go_simp) hk1 hk8).mono ?_
  rintro e w1 ⟨rfl, ha, hg⟩
  go_wp2_with fail
  go_ret
  exact ⟨rfl, ha, grow_alloc hg⟩
theorem short_gR (s : Wr) : gR (takeN (gV 0 (getN 2) s)) (gR (getN 2) s) = gR getText s := by
  cases s with
  | error e => rfl
  | ok cur =>
    cases h : getN 2 cur with
    | error e => rw [gR_err h, gR_err (by unfold getText; rw [h] : getText cur = .error e)]; rfl
    | ok p =>
      obtain ⟨n, r⟩ := p
      rw [gR_ok h, gV_ok h]
      have e : getText cur = takeN n r := by unfold getText; rw [h]
      simp only [gR, e, rval_ok]
theorem short_gV (s : Wr) : gV [] (takeN (gV 0 (getN 2) s)) (gR (getN 2) s) = gV [] getText s := by
  cases s with
  | error e => rfl
  | ok cur =>
    cases h : getN 2 cur with
    | error e => rw [gR_err h, gV_ok (by unfold getText; rw [h] : getText cur = .error e)]; rfl
    | ok p =>
      obtain ⟨n, r⟩ := p
      rw [gR_ok h, gV_ok h]
      have e : getText cur = takeN n r := by unfold getText; rw [h]
      simp only [gV, e, rval_ok]
set_option maxRecDepth 100000 in
theorem rshort8_any {S : Nat → Prop} {w : World} {X : Nat} {s : Wr} (h : RdAt S w X s) (hS : ∀ b, S b → b ≠ X) :
    Calls Try.prog 40 #[.pointer (some ⟨X, 0, none⟩)] w fun e w' => (∃ A1 n1 c1, e = .returned (.slice A1 n1 c1) ∧ Sl (fun b => w.heap.size ≤ b) w' A1 n1 c1 (gV [] getText s)) ∧ RdAt S w' X (gR getText s) ∧ w.grownBy w' (some X) := by
  have HA := Lib.hid h; clear h
  have HS := Lib.hid hS; clear hS
  go_enter Try.func40, Try.ntmps40
  go_wp2_with fail
  refine (rnumq_any (k := 2) HA.out HS.out (by omega) (by omega)).mono ?_
  rintro e w1 ⟨rfl, ha, hg⟩
  have HA1 := Lib.hid ha; clear ha
  have hz := hg.size
  go_wp2_with fail
  refine (rdx_bytes (p := w1.heap.size) (k := gV 0 (getN 2) s) (HA1.out.after (by repeat (first | exact Below.refl _ _ | assumption | refine Below.drew ?_ | refine below_drewN ?_ _ | refine Below.alloc ?_ (by first | (simp; done) | omega | (simp; omega)) _ | refine Below.setCell ?_ (by first | (simp; done) | omega | (simp; omega)) _))) HS.out (by go_simp)).mono ?_
  rintro e w2 ⟨⟨A1, n1, c1, rfl, hs1⟩, ha2, hg2⟩
  rw [short_gR] at ha2
  rw [short_gV] at hs1
  go_wp2_with fail
  go_ret
  exact ⟨⟨_, _, _, rfl, hs1.mono fun b hb _ => by simp at hb; omega⟩, ha2, grow_seq hg (grow_alloc hg2) fun j e => .inr e⟩
set_option maxRecDepth 100000 in
theorem rmust_any {S : Nat → Prop} {w : World} {X : Nat} {s : Wr} {is : Bool} {er : Int} (h : RdAt S w X s) (hS : ∀ b, S b → b ≠ X) (her : er ≠ 0) :
    Calls Try.prog 46 #[.pointer (some ⟨X, 0, none⟩), .bool is, .int .i64 er] w fun e w' => (e = .returned (.tuple #[])) ∧ RdAt S w' X (mustR is er s) ∧ w.grownBy w' (some X) := by
  have hlt := h.lt
  have HA := Lib.hid h
  have HS := Lib.hid hS; clear hS
  obtain ⟨A, n, c, h0, h1, h2, h3, h4⟩ := h
  have H2 := Lib.hid h2
  have f1 := h2 1
  clear h2
  cases s with
  | error e =>
    have hne : e ≠ 0 := h4 e rfl
    have hne2 : (e == 0) = false := by simpa using hne
    simp only [werr_error] at h1
    clear h3 h4
    go_enter Try.func46, Try.ntmps46
    go_wp2_with fail
    refine bodyPost_end (results_none rfl _ _ _) rfl ?_
    exact ⟨rfl, HA.out, World.grownBy.refl _ _⟩
  | ok cur =>
    simp only [werr_ok] at h1
    have H3 := Lib.hid (h3 cur rfl); clear h3 h4
    cases is with
    | true =>
      go_enter Try.func46, Try.ntmps46
      go_wp2_with fail
      refine bodyPost_end (results_none rfl _ _ _) rfl ?_
      exact ⟨rfl, HA.out, World.grownBy.refl _ _⟩
    | false =>
      have HE : Hid (RdAt S (w.setCell ⟨X, 1, none⟩ (.int .i64 er)) X (.error er)) := ⟨A, n, c, by go_simp, by go_simp, fun o => by simp [H2.out], fun cu e => (by cases e), fun e he => (by injection he with he; subst he; exact her)⟩
      go_enter Try.func46, Try.ntmps46
      go_wp2_with fail
      refine bodyPost_end (results_none rfl _ _ _) rfl ?_
      exact ⟨rfl, HE.out, grow_setCell _ _ _ _⟩

set_option maxHeartbeats 2000000 in
set_option maxRecDepth 100000 in
theorem rdx_value {S : Nat → Prop} {w : World} {X : Nat} {s : Wr} (h : RdAt S w X s) (hS : ∀ b, S b → b ≠ X) :
    Calls Try.prog 43 #[.pointer (some ⟨X, 0, none⟩), .func (.func 44) #[] #[]] w fun e w' => (∃ A1 n1 c1, e = .returned (.agg #[.int .i64 (gV Val.none getValue s).kind, .slice A1 n1 c1]) ∧ Sl (fun b => w.heap.size ≤ b) w' A1 n1 c1 (gV Val.none getValue s).bytes) ∧ RdAt S w' X (gR getValue s) ∧ w.grownBy w' (some X) := by
  have hlt := h.lt
  have HA := Lib.hid h
  have HS := Lib.hid hS; clear hS
  obtain ⟨A, n, c, h0, h1, h2, h3, h4⟩ := h
  have H2 := Lib.hid h2
  have f0 := h2 0
  have f1 := h2 1
  clear h2
  cases s with
  | error e =>
    have hne : e ≠ 0 := h4 e rfl
    simp only [werr_error] at h1
    clear h3 h4
    go_enter Try.func43, Try.ntmps43
    go_wp2_with fail
    refine bodyPost_ret (v := .agg #[.int .i64 0, .slice none 0 0]) (by first | (simp [results, Try.results43]; done) | (simp [results, Try.results43]; go_simp)) rfl ?_
    exact ⟨⟨none, 0, 0, rfl, Sl.nil⟩, HA.out.after (by repeat (first | exact Below.refl _ _ | assumption | refine Below.drew ?_ | refine below_drewN ?_ _ | refine Below.alloc ?_ (by first | (simp; done) | omega | (simp; omega)) _ | refine Below.setCell ?_ (by first | (simp; done) | omega | (simp; omega)) _)), grow_of_below (by repeat (first | exact Below.refl _ _ | assumption | refine Below.drew ?_ | refine below_drewN ?_ _ | refine Below.alloc ?_ (by first | (simp; done) | omega | (simp; omega)) _ | refine Below.setCell ?_ (by first | (simp; done) | omega | (simp; omega)) _))⟩
  | ok cur =>
    simp only [werr_ok] at h1
    obtain ⟨h3, hm⟩ := h3 cur rfl
    clear h4
    have H3 := Lib.hid h3; clear h3
    obtain ⟨r, hr⟩ : ∃ r, getValue cur = r := ⟨_, rfl⟩
    have HR := Lib.hid hr; clear hr
    go_enter Try.func43, Try.ntmps43
    go_wp2_with fail
    refine (getValue_any (H3.out.lt.after (by repeat (first | exact Below.refl _ _ | assumption | refine Below.drew ?_ | refine below_drewN ?_ _ | refine Below.alloc ?_ (by first | (simp; done) | omega | (simp; omega)) _ | refine Below.setCell ?_ (by first | (simp; done) | omega | (simp; omega)) _))) hm r HR.out).mono ?_
    rintro e w1 ⟨A1, m1, c1, A2, m2, c2, rfl, ho, hs2, hb'⟩
    have hb : Below w.heap.size w w1 := Below.trans (by repeat (first | exact Below.refl _ _ | assumption | refine Below.drew ?_ | refine below_drewN ?_ _ | refine Below.alloc ?_ (by first | (simp; done) | omega | (simp; omega)) _ | refine Below.setCell ?_ (by first | (simp; done) | omega | (simp; omega)) _)) (hb'.mono (by simp; omega))
    have g0 := kcell hb h0
    have g1 := kcell hb h1
    have k0 := kfroz hb hlt f0
    have k1 := kfroz hb hlt f1
    have p0 : w1.cell? ⟨w.heap.size, 0, none⟩ = some (.int .i64 0) := kcell hb' (by go_simp)
    have p1 : w1.cell? ⟨w.heap.size, 1, none⟩ = some (.slice none 0 0) := kcell hb' (by go_simp)
    have q0 : w1.cell? ⟨w.heap.size + 1, 0, none⟩ = some (.int .i64 0) := kcell hb' (by go_simp)
    have q1 : w1.cell? ⟨w.heap.size + 1, 1, none⟩ = some (.slice none 0 0) := kcell hb' (by go_simp)
    have z0 : w1.frozen? ⟨w.heap.size, 0, none⟩ = false := kfroz hb' (by simp; omega) (by go_simp)
    have z1 : w1.frozen? ⟨w.heap.size, 1, none⟩ = false := kfroz hb' (by simp; omega) (by go_simp)
    have hz1 := hb'.size
    simp at hz1
    have hlx : X < w1.heap.size := by omega
    have hlr : w.heap.size < w1.heap.size := by omega
    have hln : w.heap.size + 1 < w1.heap.size := by omega
    have HRD := Lib.hid (set2g gdValue (fun b => S b ∧ b < w.heap.size) w1 X A2 m2 c2 HR.out g0 g1 (fun o => kfroz hb hlt (H2.out o)) (fun b h => HS.out b h.1) hs2 (by have := H3.out.len; omega))
    have HG := Lib.hid (grow2 (w := w1) X (.slice A2 m2 c2) (.int .i64 (rerr r)))
    have HO := Lib.hid ho
    have HBA := Lib.hid hb
    clear hs2 ho hb hb'

    cases r with
    | error er =>
      have hne : er ≠ 0 := gdValue.ne HR.out
      simp only [rval_error, rerr_error] at HRD HG HO HBA ⊢
      go_wp2_with fail
      refine bodyPost_ret (v := .agg #[.int .i64 0, .slice none 0 0]) (by first | (simp [results, Try.results43]; done) | (simp [results, Try.results43]; go_simp)) rfl ?_
      have hgR := fun u v => ((HRD.out.grown (grow2 w.heap.size u v) (fun e => by injection e with e; omega) (fun b hb e => by injection e with e; have := hb.2; omega)).monoS (S' := S) fun b hb => hb.1)
      have hgG := fun u v => grow_seq (grow_seq (grow_of_below HBA.out) HG.out fun j e => .inr e) (grow2 w.heap.size u v) fun j e => by injection e with e; left; omega
      exact ⟨⟨none, 0, 0, by rw [gV_ok HR.out]; rfl, by rw [gV_ok HR.out]; exact Sl.nil⟩, (hgR _ _).after (by repeat (first | exact Below.refl _ _ | assumption | refine Below.drew ?_ | refine below_drewN ?_ _ | refine Below.alloc ?_ (by first | (simp; done) | omega | (simp; omega)) _ | refine Below.setCell ?_ (by first | (simp; done) | omega | (simp; omega)) _)), grow_seq (hgG _ _) (grow_of_below (row := none) (by repeat (first | exact Below.refl _ _ | assumption | refine Below.drew ?_ | refine below_drewN ?_ _ | refine Below.alloc ?_ (by first | (simp; done) | omega | (simp; omega)) _ | refine Below.setCell ?_ (by first | (simp; done) | omega | (simp; omega)) _))) fun j e => by cases e⟩
    | ok x =>
      simp only [rval_ok, rerr_ok] at HRD HG HO HBA ⊢
      go_wp2_with fail
      refine bodyPost_ret (v := .agg #[.int .i64 x.1.kind, .slice A1 m1 c1]) (by first | (simp [results, Try.results43]; done) | (simp [results, Try.results43]; go_simp)) rfl ?_
      have hgR := fun u v => ((HRD.out.grown (grow2 w.heap.size u v) (fun e => by injection e with e; omega) (fun b hb e => by injection e with e; have := hb.2; omega)).monoS (S' := S) fun b hb => hb.1)
      have hgG := fun u v => grow_seq (grow_seq (grow_of_below HBA.out) HG.out fun j e => .inr e) (grow2 w.heap.size u v) fun j e => by injection e with e; left; omega
      exact ⟨⟨A1, m1, c1, by rw [gV_ok HR.out]; rfl, by rw [gV_ok HR.out]; exact ((goesSl.grown (goesSl.grown HO.out HG.out (fun b hb e => by simp at hb; omega)) (grow2 w.heap.size _ _) (fun b hb e => by simp at hb; omega)).after (by repeat (first | exact Below.refl _ _ | assumption | refine Below.drew ?_ | refine below_drewN ?_ _ | refine Below.alloc ?_ (by first | (simp; done) | omega | (simp; omega)) _ | refine Below.setCell ?_ (by first | (simp; done) | omega | (simp; omega)) _))).mono fun b hb _ => by simp at hb; omega⟩, (hgR _ _).after (by repeat (first | exact Below.refl _ _ | assumption | refine Below.drew ?_ | refine below_drewN ?_ _ | refine Below.alloc ?_ (by first | (simp; done) | omega | (simp; omega)) _ | refine Below.setCell ?_ (by first | (simp; done) | omega | (simp; omega)) _)), grow_seq (hgG _ _) (grow_of_below (row := none) (by repeat (first | exact Below.refl _ _ | assumption | refine Below.drew ?_ | refine below_drewN ?_ _ | refine Below.alloc ?_ (by first | (simp; done) | omega | (simp; omega)) _ | refine Below.setCell ?_ (by first | (simp; done) | omega | (simp; omega)) _))) fun j e => by cases e⟩

end Go.Proofs.Sb
