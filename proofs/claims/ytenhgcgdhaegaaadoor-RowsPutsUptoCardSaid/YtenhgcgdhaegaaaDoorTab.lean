/- Walks over rows.take at each of its types, and reader's number, must. Conditions: lengths up to 2^47. (written by gen_tab.py) -/
import Derived.Test.YtenhgcgdhaegaaaDoorTaa
import Derived.Test.YtenhgcgdhaegaaaDoorOptg
import Derived.Test.YtenhgcgdhaegaaaDoorRole
import Derived.Test.YtenhgcgdhaegaaaDoorPrims
import Derived.Test.YtenhgcgdhaegaaaDoorPrimsb
import Derived.Test.YtenhgcgdhaegaaaDoorOpth
set_option linter.unusedVariables false
set_option linter.unusedSimpArgs false
namespace Sb
/-- a reading that may be: its errors are errors, and it goes ahead -/
structure Gd {α : Type} (g : B → Res α) : Prop where
  ne : ∀ {b : B} {e : Int}, g b = .error e → e ≠ 0
  len : ∀ {b : B} {x : α} {r : B}, g b = .ok (x, r) → r.length ≤ b.length
theorem Gd.of_fore {α : Type} {f : α → Wr} {g : B → Res α} (hn : ∀ {b : B} {e : Int}, g b = .error e → e ≠ 0) (F : Fore f g) : Gd g :=
  ⟨hn, fun {b x r} h => by obtain ⟨y, _, h2⟩ := F b x r h; rw [← h2, List.length_append]; omega⟩
theorem gdN (n : Nat) : Gd (getN n) := ⟨fun h => by have := getN_err h; omega, fun h => by have := getN_ok h; rw [this.2.2.1, List.length_drop]; omega⟩
theorem gdTake (n : Nat) : Gd (takeN n) := ⟨fun h => by have := takeN_err h; omega, fun h => by have := takeN_ok h; rw [this.2.2, List.length_drop]; omega⟩
theorem gdText : Gd getText := .of_fore gt_ne text_fore
theorem gR_werr {α : Type} {g : B → Res α} {cur : B} {r : Res α} (h : g cur = r) : werr (gR g (.ok cur)) = rerr r := by
  cases r with
  | ok x => rw [gR_ok h]; rfl
  | error e => rw [gR_err h]; rfl
theorem Gd.of {α : Type} {g : B → Res α} (hn : Nz g) (hl : Lc g) : Gd g :=
  ⟨fun {b e} h => hn b e h, fun {b x r} h => by obtain ⟨y, e, _⟩ := hl b x r h; rw [e, List.length_append]; omega⟩
theorem gdO : Gd (getO 20) := .of (nzO 20) (lcO 20)
def getS (n : Nat) (b : B) : Res Int := bindR (getN n b) fun x r => .ok (sgn n x, r)
theorem gdS (n : Nat) : Gd (getS n) := .of ((nzN n).bind fun x => .pure _) ((lcN n).bind fun x => .pure _)
theorem getS4 : getS 4 = getNum := by rw [eqNum]; rfl
theorem getS_of {n : Nat} {b : B} {r : Res Nat} (h : getN n b = r) : getS n b = bindR r fun x r => .ok (sgn n x, r) := by subst h; rfl
end Sb
namespace Go.Proofs.Sb
open Go.RowKit _root_.Sb

theorem gdValue : Gd getValue := .of nzValue lcValue
theorem Goes.grown {F : (Nat → Prop) → World → Prop} (G : Goes F) {S : Nat → Prop} {w w' : World} {X : Nat} (h : F S w) (hg : w.grownBy w' (some X)) (hS : ∀ b, S b → b ≠ X) : F S w' :=
  G.keep h hg.size fun b hs hb => hg.block b hb fun e => hS b hs (by injection e)
theorem grow2 {w : World} (X : Nat) (u v : Value) : w.grownBy ((w.setCell ⟨X, 0, none⟩ u).setCell ⟨X, 1, none⟩ v) (some X) := grow_set2 (row := none) (Below.refl _ _) u v
theorem set2g {α : Type} {g : B → Res α} (G : Gd g) {u0 u1 : Value} (S : Nat → Prop) (w : World) (X : Nat) (A : Option Addr) (n c : Nat) {cur : B} {r : Res α} (hr : g cur = r) (h0 : w.cell? ⟨X, 0, none⟩ = some u0) (h1 : w.cell? ⟨X, 1, none⟩ = some u1) (hf : ∀ o, w.frozen? ⟨X, o, none⟩ = false) (hS : ∀ b, S b → b ≠ X)
    (hs : Sl S w A n c (rrest r)) (hl : cur.length ≤ 140737488355328) : RdAt S ((w.setCell ⟨X, 0, none⟩ (.slice A n c)).setCell ⟨X, 1, none⟩ (.int .i64 (rerr r))) X (gR g (.ok cur)) := by
  refine set2 S w X A n c (rerr r) (gR g (.ok cur)) (gR_werr hr) h0 h1 hf hS (fun cu e => ?_) (fun e he => ?_)
  · cases r with
    | error e1 => rw [gR_err hr] at e; cases e
    | ok x =>
      rw [gR_ok hr] at e
      injection e with e
      subst e
      obtain ⟨x1, x2⟩ := x
      have := G.len hr
      have := hs.len
      exact ⟨hs, by simp only [rrest_ok] at *; omega⟩
  · cases r with
    | error e1 => rw [gR_err hr] at he; injection he with he; subst he; exact G.ne hr
    | ok x => rw [gR_ok hr] at he; cases he

set_option maxHeartbeats 2000000 in
set_option maxRecDepth 100000 in
theorem rdx_text {S : Nat → Prop} {w : World} {X : Nat} {s : Wr} (h : RdAt S w X s) (hS : ∀ b, S b → b ≠ X) :
    Calls Tryd.prog 48 #[.pointer (some ⟨X, 0, none⟩), .func (.func 49) #[] #[]] w fun e w' => e = .returned (.string (str (gV [] getText s))) ∧ RdAt S w' X (gR getText s) ∧ w.grownBy w' (some X) := by
  have hlt := h.lt
  have HA := Lib.hid h
  have HS := Lib.hid hS; clear hS
  obtain ⟨A, n, c, h0, h1, h2, h3, h4⟩ := h
  have H2 := Lib.hid h2
  have f0 := h2 0
  have f1 := h2 1
  clear h2
  cases s with
  | error e =>
    have hne : e ≠ 0 := h4 e rfl
    simp only [werr_error] at h1
    clear h3 h4
    go_enter Tryd.func48, Tryd.ntmps48
    go_wp2_with fail
    go_ret
    exact ⟨rfl, HA.out, World.grownBy.refl _ _⟩
  | ok cur =>
    simp only [werr_ok] at h1
    obtain ⟨h3, hm⟩ := h3 cur rfl
    clear h4
    have H3 := Lib.hid h3; clear h3
    obtain ⟨r, hr⟩ : ∃ r, getText cur = r := ⟨_, rfl⟩
    have HR := Lib.hid hr; clear hr
    go_enter Tryd.func48, Tryd.ntmps48
    go_wp2_with fail
    refine (getText_any H3.out hm r HR.out).mono ?_
    rintro e w1 ⟨A2, m2, c2, rfl, hs2, hb⟩
    have g0 := kcell hb h0
    have g1 := kcell hb h1
    have k0 := kfroz hb hlt f0
    have k1 := kfroz hb hlt f1
    have HRD := Lib.hid (set2g gdText S w1 X A2 m2 c2 HR.out g0 g1 (fun o => kfroz hb hlt (H2.out o)) HS.out hs2 (by have := H3.out.len; omega))
    clear hs2
    cases r with
    | error er =>
      have hne : er ≠ 0 := gdText.ne HR.out
      simp only [rval_error, rerr_error] at HRD ⊢
      go_wp2_with fail
      go_ret
      exact ⟨by rw [gV_ok HR.out]; rfl, HRD.out, grow_set2 (row := none) hb _ _⟩
    | ok x =>
      simp only [rval_ok, rerr_ok] at HRD ⊢
      go_wp2_with fail
      go_ret
      exact ⟨by rw [gV_ok HR.out]; rfl, HRD.out, grow_set2 (row := none) hb _ _⟩

set_option maxRecDepth 100000 in
theorem rmust_any {S : Nat → Prop} {w : World} {X : Nat} {s : Wr} {is : Bool} {er : Int} (h : RdAt S w X s) (hS : ∀ b, S b → b ≠ X) (her : er ≠ 0) :
    Calls Tryd.prog 25 #[.pointer (some ⟨X, 0, none⟩), .bool is, .int .i64 er] w fun e w' => (e = .returned (.tuple #[])) ∧ RdAt S w' X (mustR is er s) ∧ w.grownBy w' (some X) := by
  have hlt := h.lt
  have HA := Lib.hid h
  have HS := Lib.hid hS; clear hS
  obtain ⟨A, n, c, h0, h1, h2, h3, h4⟩ := h
  have H2 := Lib.hid h2
  have f1 := h2 1
  clear h2
  cases s with
  | error e =>
    have hne : e ≠ 0 := h4 e rfl
    have hne2 : (e == 0) = false := by simpa using hne
    simp only [werr_error] at h1
    clear h3 h4
    go_enter Tryd.func25, Tryd.ntmps25
    go_wp2_with fail
    refine bodyPost_end (results_none rfl _ _ _) rfl ?_
    exact ⟨rfl, HA.out, World.grownBy.refl _ _⟩
  | ok cur =>
    simp only [werr_ok] at h1
    have H3 := Lib.hid (h3 cur rfl); clear h3 h4
    cases is with
    | true =>
      go_enter Tryd.func25, Tryd.ntmps25
      go_wp2_with fail
      refine bodyPost_end (results_none rfl _ _ _) rfl ?_
      exact ⟨rfl, HA.out, World.grownBy.refl _ _⟩
    | false =>
      have HE : Hid (RdAt S (w.setCell ⟨X, 1, none⟩ (.int .i64 er)) X (.error er)) := ⟨A, n, c, by go_simp, by go_simp, fun o => by simp [H2.out], fun cu e => (by cases e), fun e he => (by injection he with he; subst he; exact her)⟩
      go_enter Tryd.func25, Tryd.ntmps25
      go_wp2_with fail
      refine bodyPost_end (results_none rfl _ _ _) rfl ?_
      exact ⟨rfl, HE.out, grow_setCell _ _ _ _⟩

theorem RdAt.monoS {S S' : Nat → Prop} {w : World} {X : Nat} {s : Wr} (h : RdAt S w X s) (hS : ∀ b, S b → S' b) : RdAt S' w X s := by
  obtain ⟨A, n, c, h0, h1, h2, h3, h4⟩ := h
  exact ⟨A, n, c, h0, h1, h2, fun cur e => ⟨(h3 cur e).1.mono fun b hb _ => hS b hb, (h3 cur e).2⟩, h4⟩
theorem grow_alloc {w w' : World} {X : Nat} {o : Obj} (h : (w.alloc o).grownBy w' (some X)) : w.grownBy w' (some X) := grow_seq (grow_of_below (row := some X) ((Below.refl _ _).alloc (Nat.le_refl _) o)) h fun j e => .inr e
set_option maxHeartbeats 2000000 in
set_option maxRecDepth 100000 in
theorem rdx_value {S : Nat → Prop} {w : World} {X : Nat} {s : Wr} (h : RdAt S w X s) (hS : ∀ b, S b → b ≠ X) :
    Calls Tryd.prog 23 #[.pointer (some ⟨X, 0, none⟩), .func (.func 24) #[] #[]] w fun e w' => (∃ A1 n1 c1, e = .returned (.agg #[.int .i64 (gV Val.none getValue s).kind, .slice A1 n1 c1]) ∧ Sl (fun b => w.heap.size ≤ b) w' A1 n1 c1 (gV Val.none getValue s).bytes) ∧ RdAt S w' X (gR getValue s) ∧ w.grownBy w' (some X) := by
  have hlt := h.lt
  have HA := Lib.hid h
  have HS := Lib.hid hS; clear hS
  obtain ⟨A, n, c, h0, h1, h2, h3, h4⟩ := h
  have H2 := Lib.hid h2
  have f0 := h2 0
  have f1 := h2 1
  clear h2
  cases s with
  | error e =>
    have hne : e ≠ 0 := h4 e rfl
    simp only [werr_error] at h1
    clear h3 h4
    go_enter Tryd.func23, Tryd.ntmps23
    go_wp2_with fail
    refine bodyPost_ret (v := .agg #[.int .i64 0, .slice none 0 0]) (by first | (simp [results, Tryd.results23]; done) | (simp [results, Tryd.results23]; go_simp)) rfl ?_
    exact ⟨⟨none, 0, 0, rfl, Sl.nil⟩, HA.out.after (by repeat (first | exact Below.refl _ _ | assumption | refine Below.drew ?_ | refine below_drewN ?_ _ | refine Below.alloc ?_ (by first | (simp; done) | omega | (simp; omega)) _ | refine Below.setCell ?_ (by first | (simp; done) | omega | (simp; omega)) _)), grow_of_below (by repeat (first | exact Below.refl _ _ | assumption | refine Below.drew ?_ | refine below_drewN ?_ _ | refine Below.alloc ?_ (by first | (simp; done) | omega | (simp; omega)) _ | refine Below.setCell ?_ (by first | (simp; done) | omega | (simp; omega)) _))⟩
  | ok cur =>
    simp only [werr_ok] at h1
    obtain ⟨h3, hm⟩ := h3 cur rfl
    clear h4
    have H3 := Lib.hid h3; clear h3
    obtain ⟨r, hr⟩ : ∃ r, getValue cur = r := ⟨_, rfl⟩
    have HR := Lib.hid hr; clear hr
    go_enter Tryd.func23, Tryd.ntmps23
    go_wp2_with fail
    refine (getValue_any (H3.out.lt.after (by repeat (first | exact Below.refl _ _ | assumption | refine Below.drew ?_ | refine below_drewN ?_ _ | refine Below.alloc ?_ (by first | (simp; done) | omega | (simp; omega)) _ | refine Below.setCell ?_ (by first | (simp; done) | omega | (simp; omega)) _))) hm r HR.out).mono ?_
    rintro e w1 ⟨A1, m1, c1, A2, m2, c2, rfl, ho, hs2, hb'⟩
    have hb : Below w.heap.size w w1 := Below.trans (by repeat (first | exact Below.refl _ _ | assumption | refine Below.drew ?_ | refine below_drewN ?_ _ | refine Below.alloc ?_ (by first | (simp; done) | omega | (simp; omega)) _ | refine Below.setCell ?_ (by first | (simp; done) | omega | (simp; omega)) _)) (hb'.mono (by simp; omega))
    have g0 := kcell hb h0
    have g1 := kcell hb h1
    have k0 := kfroz hb hlt f0
    have k1 := kfroz hb hlt f1
    have p0 : w1.cell? ⟨w.heap.size, 0, none⟩ = some (.int .i64 0) := kcell hb' (by go_simp)
    have p1 : w1.cell? ⟨w.heap.size, 1, none⟩ = some (.slice none 0 0) := kcell hb' (by go_simp)
    have q0 : w1.cell? ⟨w.heap.size + 1, 0, none⟩ = some (.int .i64 0) := kcell hb' (by go_simp)
    have q1 : w1.cell? ⟨w.heap.size + 1, 1, none⟩ = some (.slice none 0 0) := kcell hb' (by go_simp)
    have z0 : w1.frozen? ⟨w.heap.size, 0, none⟩ = false := kfroz hb' (by simp; omega) (by go_simp)
    have z1 : w1.frozen? ⟨w.heap.size, 1, none⟩ = false := kfroz hb' (by simp; omega) (by go_simp)
    have hz1 := hb'.size
    simp at hz1
    have hlx : X < w1.heap.size := by omega
    have hlr : w.heap.size < w1.heap.size := by omega
    have hln : w.heap.size + 1 < w1.heap.size := by omega
    have HRD := Lib.hid (set2g gdValue (fun b => S b ∧ b < w.heap.size) w1 X A2 m2 c2 HR.out g0 g1 (fun o => kfroz hb hlt (H2.out o)) (fun b h => HS.out b h.1) hs2 (by have := H3.out.len; omega))
    have HG := Lib.hid (grow2 (w := w1) X (.slice A2 m2 c2) (.int .i64 (rerr r)))
    have HO := Lib.hid ho
    have HBA := Lib.hid hb
    clear hs2 ho hb hb'

    cases r with
    | error er =>
      have hne : er ≠ 0 := gdValue.ne HR.out
      simp only [rval_error, rerr_error] at HRD HG HO HBA ⊢
      go_wp2_with fail
      refine bodyPost_ret (v := .agg #[.int .i64 0, .slice none 0 0]) (by first | (simp [results, Tryd.results23]; done) | (simp [results, Tryd.results23]; go_simp)) rfl ?_
      have hgR := fun u v => ((HRD.out.grown (grow2 w.heap.size u v) (fun e => by injection e with e; omega) (fun b hb e => by injection e with e; have := hb.2; omega)).monoS (S' := S) fun b hb => hb.1)
      have hgG := fun u v => grow_seq (grow_seq (grow_of_below HBA.out) HG.out fun j e => .inr e) (grow2 w.heap.size u v) fun j e => by injection e with e; left; omega
      exact ⟨⟨none, 0, 0, by rw [gV_ok HR.out]; rfl, by rw [gV_ok HR.out]; exact Sl.nil⟩, (hgR _ _).after (by repeat (first | exact Below.refl _ _ | assumption | refine Below.drew ?_ | refine below_drewN ?_ _ | refine Below.alloc ?_ (by first | (simp; done) | omega | (simp; omega)) _ | refine Below.setCell ?_ (by first | (simp; done) | omega | (simp; omega)) _)), grow_seq (hgG _ _) (grow_of_below (row := none) (by repeat (first | exact Below.refl _ _ | assumption | refine Below.drew ?_ | refine below_drewN ?_ _ | refine Below.alloc ?_ (by first | (simp; done) | omega | (simp; omega)) _ | refine Below.setCell ?_ (by first | (simp; done) | omega | (simp; omega)) _))) fun j e => by cases e⟩
    | ok x =>
      simp only [rval_ok, rerr_ok] at HRD HG HO HBA ⊢
      go_wp2_with fail
      refine bodyPost_ret (v := .agg #[.int .i64 x.1.kind, .slice A1 m1 c1]) (by first | (simp [results, Tryd.results23]; done) | (simp [results, Tryd.results23]; go_simp)) rfl ?_
      have hgR := fun u v => ((HRD.out.grown (grow2 w.heap.size u v) (fun e => by injection e with e; omega) (fun b hb e => by injection e with e; have := hb.2; omega)).monoS (S' := S) fun b hb => hb.1)
      have hgG := fun u v => grow_seq (grow_seq (grow_of_below HBA.out) HG.out fun j e => .inr e) (grow2 w.heap.size u v) fun j e => by injection e with e; left; omega
      exact ⟨⟨A1, m1, c1, by rw [gV_ok HR.out]; rfl, by rw [gV_ok HR.out]; exact ((goesSl.grown (goesSl.grown HO.out HG.out (fun b hb e => by simp at hb; omega)) (grow2 w.heap.size _ _) (fun b hb e => by simp at hb; omega)).after (by repeat (first | exact Below.refl _ _ | assumption | refine Below.drew ?_ | refine below_drewN ?_ _ | refine Below.alloc ?_ (by first | (simp; done) | omega | (simp; omega)) _ | refine Below.setCell ?_ (by first | (simp; done) | omega | (simp; omega)) _))).mono fun b hb _ => by simp at hb; omega⟩, (hgR _ _).after (by repeat (first | exact Below.refl _ _ | assumption | refine Below.drew ?_ | refine below_drewN ?_ _ | refine Below.alloc ?_ (by first | (simp; done) | omega | (simp; omega)) _ | refine Below.setCell ?_ (by first | (simp; done) | omega | (simp; omega)) _)), grow_seq (hgG _ _) (grow_of_below (row := none) (by repeat (first | exact Below.refl _ _ | assumption | refine Below.drew ?_ | refine below_drewN ?_ _ | refine Below.alloc ?_ (by first | (simp; done) | omega | (simp; omega)) _ | refine Below.setCell ?_ (by first | (simp; done) | omega | (simp; omega)) _))) fun j e => by cases e⟩


theorem signedk_any (x : Int) (k : Nat) (w : World) (hk : k = 2 ∨ k = 4) (h0 : 0 ≤ x) (h1 : x.toNat < 256 ^ k) :
    Calls Tryd.prog 76 #[.int .u64 x, .int .i64 (k : Int)] w fun e w' => e = .returned (.int .i64 (sgn k x.toNat)) ∧ w = w' := by
  rcases hk with rfl | rfl
  · simp only [Nat.reducePow] at h1
    go_enter Tryd.func76, Tryd.ntmps76
    go_wp2_with (first | (go_at_call 67; refine (size_yes _ _ (by omega) (by omega)).mono ?_; rintro e w' ⟨rfl, rfl⟩))
    go_ret
    refine ⟨ret_int ?_, rfl⟩
    unfold wrap64 sgn
    simp only [Nat.reducePow, Nat.reduceDiv]
    split <;> omega
  · exact signed4 x w h0 (by simp only [Nat.reducePow] at h1; omega)
set_option maxRecDepth 100000 in
theorem num1_any {S : Nat → Prop} {A : Option Addr} {m c p k : Nat} {bs : B} {w : World} (hs : Sl S w A m c bs) (hp : w.cell? ⟨p, 0, none⟩ = some (.int .i64 (k : Int))) (hk : k = 2 ∨ k = 4) (r : Res Int) (hr : getS k bs = r) :
    Calls Tryd.prog 74 #[.slice A m c, .pointer (some ⟨p, 0, none⟩)] w fun e w' => ∃ A' m' c', e = .returned (.tuple #[.int .i64 (rval 0 r), .slice A' m' c', .int .i64 (rerr r)]) ∧ Sl S w' A' m' c' (rrest r) ∧ Below w.heap.size w w' := by
  have hlt := World.block_lt_of_cell? w ⟨p, 0, none⟩ hp
  obtain ⟨q, hq⟩ : ∃ q, getN k bs = q := ⟨_, rfl⟩
  have HS := Lib.hid hs; clear hs
  have HQ := Lib.hid hq; clear hq
  have HR := Lib.hid hr; clear hr
  go_enter Tryd.func74, Tryd.ntmps74
  go_wp2_with fail
  refine (get_any HS.out (by omega) (by omega) q HQ.out).mono ?_
  rintro e w1 ⟨A2, m2, c2, rfl, hs2, hb⟩
  have hp1 := kcell hb hp
  clear hp
  have hx : ((rval 0 q : Nat) : Int).toNat < 256 ^ k := by
    rw [Int.toNat_natCast]
    cases q with
    | error e => exact Nat.pow_pos (by decide)
    | ok x => exact (getN_ok (x := x.1) (r := x.2) HQ.out).2.2.2
  have hr1 := getS_of HQ.out
  rw [HR.out] at hr1
  have E1 : Hid (rval 0 r = sgn k (rval 0 q)) := by subst hr1; cases q <;> first | rfl | (rcases hk with rfl | rfl <;> (show (0 : Int) = sgn _ 0; decide))
  have E2 : Hid (rrest r = rrest q) := by subst hr1; cases q <;> rfl
  have E3 : Hid (rerr r = rerr q) := by subst hr1; cases q <;> rfl
  clear hr1
  go_wp2_with fail
  refine (signedk_any _ k _ hk (by omega) hx).mono ?_
  rw [Int.toNat_natCast]
  rintro e w2 ⟨rfl, rfl⟩
  go_wp2_with fail
  go_ret3
  exact ⟨_, _, _, by rw [E1.out, E3.out]; rfl, by rw [E2.out]; exact hs2, hb⟩
set_option maxHeartbeats 2000000 in
set_option maxRecDepth 100000 in
theorem rdx_i64 {S : Nat → Prop} {w : World} {X : Nat} {s : Wr} (h : RdAt S w X s) (hS : ∀ b, S b → b ≠ X) {p k : Nat} (hp : w.cell? ⟨p, 0, none⟩ = some (.int .i64 (k : Int))) (hk : k = 2 ∨ k = 4) :
    Calls Tryd.prog 73 #[.pointer (some ⟨X, 0, none⟩), .func (.func 74) #[] #[.pointer (some ⟨p, 0, none⟩)]] w fun e w' => e = .returned (.int .i64 (gV 0 (getS k) s)) ∧ RdAt S w' X (gR (getS k) s) ∧ w.grownBy w' (some X) := by
  have hlt := h.lt
  have HA := Lib.hid h
  have HS := Lib.hid hS; clear hS
  obtain ⟨A, n, c, h0, h1, h2, h3, h4⟩ := h
  have H2 := Lib.hid h2
  have f0 := h2 0
  have f1 := h2 1
  clear h2
  cases s with
  | error e =>
    have hne : e ≠ 0 := h4 e rfl
    simp only [werr_error] at h1
    clear h3 h4
    go_enter Tryd.func73, Tryd.ntmps73
    go_wp2_with fail
    go_ret
    exact ⟨rfl, HA.out, World.grownBy.refl _ _⟩
  | ok cur =>
    simp only [werr_ok] at h1
    obtain ⟨h3, hm⟩ := h3 cur rfl
    clear h4
    have H3 := Lib.hid h3; clear h3
    obtain ⟨r, hr⟩ : ∃ r, (getS k) cur = r := ⟨_, rfl⟩
    have HR := Lib.hid hr; clear hr
    go_enter Tryd.func73, Tryd.ntmps73
    go_wp2_with fail
    refine (num1_any H3.out hp hk r HR.out).mono ?_
    rintro e w1 ⟨A2, m2, c2, rfl, hs2, hb⟩
    clear hp
    have g0 := kcell hb h0
    have g1 := kcell hb h1
    have k0 := kfroz hb hlt f0
    have k1 := kfroz hb hlt f1
    have HRD := Lib.hid (set2g (gdS k) S w1 X A2 m2 c2 HR.out g0 g1 (fun o => kfroz hb hlt (H2.out o)) HS.out hs2 (by have := H3.out.len; omega))
    clear hs2
    cases r with
    | error er =>
      have hne : er ≠ 0 := (gdS k).ne HR.out
      simp only [rval_error, rerr_error] at HRD ⊢
      go_wp2_with fail
      go_ret
      exact ⟨by rw [gV_ok HR.out]; rfl, HRD.out, grow_set2 (row := none) hb _ _⟩
    | ok x =>
      simp only [rval_ok, rerr_ok] at HRD ⊢
      go_wp2_with fail
      go_ret
      exact ⟨by rw [gV_ok HR.out]; rfl, HRD.out, grow_set2 (row := none) hb _ _⟩

set_option maxRecDepth 100000 in
theorem tnum_any {S : Nat → Prop} {w : World} {X k : Nat} {s : Wr} (h : RdAt S w X s) (hS : ∀ b, S b → b ≠ X) (hk : k = 2 ∨ k = 4) :
    Calls Tryd.prog 44 #[.pointer (some ⟨X, 0, none⟩), .int .i64 (k : Int)] w fun e w' => e = .returned (.int .i64 (gV 0 (getS k) s)) ∧ RdAt S w' X (gR (getS k) s) ∧ w.grownBy w' (some X) := by
  have HA := Lib.hid h; clear h
  have HS := Lib.hid hS; clear hS
  go_enter Tryd.func44, Tryd.ntmps44
  go_wp2_with fail
  refine (rdx_i64 (p := w.heap.size) (k := k) (HA.out.after (by repeat (first | exact Below.refl _ _ | assumption | refine Below.drew ?_ | refine below_drewN ?_ _ | refine Below.alloc ?_ (by first | (simp; done) | omega | (simp; omega)) _ | refine Below.setCell ?_ (by first | (simp; done) | omega | (simp; omega)) _))) HS.out (by go_simp) hk).mono ?_
  rintro e w1 ⟨rfl, ha, hg⟩
  go_wp2_with fail
  go_ret
  exact ⟨rfl, ha, grow_alloc hg⟩

end Go.Proofs.Sb

/- Walk over rows.take at an option. Conditions: lengths up to 2^47. (written by gen_tab.py) -/
namespace Go.Proofs.Sb
open Go.RowKit _root_.Sb

set_option maxHeartbeats 4000000 in
set_option maxRecDepth 100000 in
theorem rdx_optG {G : B → Res Opt} (hG : Hid (G = getO 20)) (hgd : Gd G) {S : Nat → Prop} {w : World} {X : Nat} {s : Wr} (h : RdAt S w X s) (hS : ∀ b, S b → b ≠ X) (hpl : Pl w) :
    Calls Tryd.prog 50 #[.pointer (some ⟨X, 0, none⟩), .func (.func 51) #[] #[]] w fun e w' => (∃ A1 n1 c1 A2 n2 c2, e = .returned (optV (gV Opt.none (G) s) A1 n1 c1 A2 n2 c2) ∧ OptR (fun b => w.heap.size ≤ b) w' 9223372036854775807 20 A1 n1 c1 A2 n2 c2 (gV Opt.none (G) s)) ∧ RdAt S w' X (gR (G) s) ∧ w.grownBy w' (some X) := by
  have hlt := h.lt
  have HA := Lib.hid h
  have HPL := Lib.hid hpl; clear hpl
  have HS := Lib.hid hS; clear hS
  obtain ⟨A, n, c, h0, h1, h2, h3, h4⟩ := h
  have H2 := Lib.hid h2
  have f0 := h2 0
  have f1 := h2 1
  clear h2
  cases s with
  | error e =>
    have hne : e ≠ 0 := h4 e rfl
    simp only [werr_error] at h1
    clear h3 h4
    go_enter Tryd.func50, Tryd.ntmps50
    go_wp2_with fail
    refine bodyPost_ret (v := .agg #[.int .u16 0, .string ⟨#[]⟩, .string ⟨#[]⟩, .slice none 0 0, .slice none 0 0]) (by first | (simp [results, Tryd.results50]; done) | (simp [results, Tryd.results50]; go_simp)) rfl ?_
    exact ⟨⟨none, 0, 0, none, 0, 0, rfl, OptR.none⟩, HA.out.after (by repeat (first | exact Below.refl _ _ | assumption | refine Below.drew ?_ | refine below_drewN ?_ _ | refine Below.alloc ?_ (by first | (simp; done) | omega | (simp; omega)) _ | refine Below.setCell ?_ (by first | (simp; done) | omega | (simp; omega)) _)), grow_of_below (by repeat (first | exact Below.refl _ _ | assumption | refine Below.drew ?_ | refine below_drewN ?_ _ | refine Below.alloc ?_ (by first | (simp; done) | omega | (simp; omega)) _ | refine Below.setCell ?_ (by first | (simp; done) | omega | (simp; omega)) _))⟩
  | ok cur =>
    simp only [werr_ok] at h1
    obtain ⟨h3, hm⟩ := h3 cur rfl
    clear h4
    have H3 := Lib.hid h3; clear h3
    obtain ⟨r, hr⟩ : ∃ r, G cur = r := ⟨_, rfl⟩
    have HR := Lib.hid hr; clear hr
    go_enter Tryd.func50, Tryd.ntmps50
    go_wp2_with fail
    refine (oGet_any (H3.out.lt.after (by repeat (first | exact Below.refl _ _ | assumption | refine Below.drew ?_ | refine below_drewN ?_ _ | refine Below.alloc ?_ (by first | (simp; done) | omega | (simp; omega)) _ | refine Below.setCell ?_ (by first | (simp; done) | omega | (simp; omega)) _))) hm (HPL.out.after (by repeat (first | exact Below.refl _ _ | assumption | refine Below.drew ?_ | refine below_drewN ?_ _ | refine Below.alloc ?_ (by first | (simp; done) | omega | (simp; omega)) _ | refine Below.setCell ?_ (by first | (simp; done) | omega | (simp; omega)) _))) r (by rw [← hG.out]; exact HR.out)).mono ?_
    rintro e w1 ⟨A1, m1, c1, A2, m2, c2, A3, m3, c3, rfl, ho, hs2, hb'⟩
    have hb : Below w.heap.size w w1 := Below.trans (by repeat (first | exact Below.refl _ _ | assumption | refine Below.drew ?_ | refine below_drewN ?_ _ | refine Below.alloc ?_ (by first | (simp; done) | omega | (simp; omega)) _ | refine Below.setCell ?_ (by first | (simp; done) | omega | (simp; omega)) _)) (hb'.mono (by simp; omega))
    have g0 := kcell hb h0
    have g1 := kcell hb h1
    have k0 := kfroz hb hlt f0
    have k1 := kfroz hb hlt f1
    have p0 : w1.cell? ⟨w.heap.size, 0, none⟩ = some (.int .u16 0) := kcell hb' (by go_simp)
    have p1 : w1.cell? ⟨w.heap.size, 1, none⟩ = some (.string ⟨#[]⟩) := kcell hb' (by go_simp)
    have p2 : w1.cell? ⟨w.heap.size, 2, none⟩ = some (.string ⟨#[]⟩) := kcell hb' (by go_simp)
    have p3 : w1.cell? ⟨w.heap.size, 3, none⟩ = some (.slice none 0 0) := kcell hb' (by go_simp)
    have p4 : w1.cell? ⟨w.heap.size, 4, none⟩ = some (.slice none 0 0) := kcell hb' (by go_simp)
    have q0 : w1.cell? ⟨w.heap.size + 1, 0, none⟩ = some (.int .u16 0) := kcell hb' (by go_simp)
    have q1 : w1.cell? ⟨w.heap.size + 1, 1, none⟩ = some (.string ⟨#[]⟩) := kcell hb' (by go_simp)
    have q2 : w1.cell? ⟨w.heap.size + 1, 2, none⟩ = some (.string ⟨#[]⟩) := kcell hb' (by go_simp)
    have q3 : w1.cell? ⟨w.heap.size + 1, 3, none⟩ = some (.slice none 0 0) := kcell hb' (by go_simp)
    have q4 : w1.cell? ⟨w.heap.size + 1, 4, none⟩ = some (.slice none 0 0) := kcell hb' (by go_simp)
    have z0 : w1.frozen? ⟨w.heap.size, 0, none⟩ = false := kfroz hb' (by simp; omega) (by go_simp)
    have z1 : w1.frozen? ⟨w.heap.size, 1, none⟩ = false := kfroz hb' (by simp; omega) (by go_simp)
    have z2 : w1.frozen? ⟨w.heap.size, 2, none⟩ = false := kfroz hb' (by simp; omega) (by go_simp)
    have z3 : w1.frozen? ⟨w.heap.size, 3, none⟩ = false := kfroz hb' (by simp; omega) (by go_simp)
    have z4 : w1.frozen? ⟨w.heap.size, 4, none⟩ = false := kfroz hb' (by simp; omega) (by go_simp)
    have hz1 := hb'.size
    simp at hz1
    have hlx : X < w1.heap.size := by omega
    have hlr : w.heap.size < w1.heap.size := by omega
    have hln : w.heap.size + 1 < w1.heap.size := by omega
    have HRD := Lib.hid (set2g hgd (fun b => S b ∧ b < w.heap.size) w1 X A3 m3 c3 HR.out g0 g1 (fun o => kfroz hb hlt (H2.out o)) (fun b h => HS.out b h.1) hs2 (by have := H3.out.len; omega))
    have HG := Lib.hid (grow2 (w := w1) X (.slice A3 m3 c3) (.int .i64 (rerr r)))
    have HO := Lib.hid ((ho.mono (S' := fun b => w.heap.size + 1 < b) fun b (hb : _ ≤ b) _ => by simp at hb; omega).grown HG.out (fun b (hb : w.heap.size + 1 < b) e => by injection e with e; omega))
    have HBA := Lib.hid hb
    clear hs2 ho hb hb'
    cases r with
    | error er =>
      have hne : er ≠ 0 := hgd.ne HR.out
      simp only [rval_error, rerr_error] at HRD HG HO HBA ⊢
      go_wp2_with fail
      refine bodyPost_ret (v := .agg #[.int .u16 0, .string ⟨#[]⟩, .string ⟨#[]⟩, .slice none 0 0, .slice none 0 0]) (by first | (simp [results, Tryd.results50]; done) | (simp [results, Tryd.results50]; go_simp)) rfl ?_
      have hgR := fun a b c d e => ((HRD.out.grown (grow5 _ w.heap.size a b c d e) (fun e => by injection e with e; omega) (fun b hb e => by injection e with e; have := hb.2; omega)).monoS (S' := S) fun b hb => hb.1)
      have hgG := fun a b c d e => grow_seq (grow_seq (grow_of_below HBA.out) HG.out fun j e => .inr e) (grow5 _ w.heap.size a b c d e) fun j e => by injection e with e; left; omega
      exact ⟨⟨none, 0, 0, none, 0, 0, by rw [gV_ok HR.out]; rfl, by rw [gV_ok HR.out]; exact OptR.none⟩, (hgR (.int .u16 0) (.string ⟨#[]⟩) (.string ⟨#[]⟩) (.slice none 0 0) (.slice none 0 0)).after ((Below.refl _ _).alloc (Nat.le_refl _) _), grow_seq (hgG (.int .u16 0) (.string ⟨#[]⟩) (.string ⟨#[]⟩) (.slice none 0 0) (.slice none 0 0)) (grow_of_below (row := none) ((Below.refl _ _).alloc (Nat.le_refl _) _)) fun j e => by cases e⟩
    | ok x =>
      simp only [rval_ok, rerr_ok] at HRD HG HO HBA ⊢
      go_wp2_with fail
      refine bodyPost_ret (v := optV x.1 A1 m1 c1 A2 m2 c2) (by first | (simp [results, Tryd.results50]; done) | (simp [results, Tryd.results50]; go_simp)) rfl ?_
      have hgR := fun a b c d e => ((HRD.out.grown (grow5 _ w.heap.size a b c d e) (fun e => by injection e with e; omega) (fun b hb e => by injection e with e; have := hb.2; omega)).monoS (S' := S) fun b hb => hb.1)
      have hgG := fun a b c d e => grow_seq (grow_seq (grow_of_below HBA.out) HG.out fun j e => .inr e) (grow5 _ w.heap.size a b c d e) fun j e => by injection e with e; left; omega
      have hO2 := fun a b c d e => ((HO.out.grown (grow5 _ w.heap.size a b c d e) (fun b (hb : w.heap.size + 1 < b) e => by injection e with e; omega)).mono (S' := fun b => w.heap.size ≤ b) fun b (hb : w.heap.size + 1 < b) _ => by omega)
      rw [gV_ok HR.out]
      refine ⟨⟨A1, m1, c1, A2, m2, c2, rfl, ?_⟩, (hgR (.int .u16 (x.1.id : Int)) (.string (str x.1.space)) (.string (str x.1.name)) (.slice A1 m1 c1) (.slice A2 m2 c2)).after ((Below.refl _ _).alloc (Nat.le_refl _) _), grow_seq (hgG (.int .u16 (x.1.id : Int)) (.string (str x.1.space)) (.string (str x.1.name)) (.slice A1 m1 c1) (.slice A2 m2 c2)) (grow_of_below (row := none) ((Below.refl _ _).alloc (Nat.le_refl _) _)) fun j e => by cases e⟩
      refine (hO2 (.int .u16 (x.1.id : Int)) (.string (str x.1.space)) (.string (str x.1.name)) (.slice A1 m1 c1) (.slice A2 m2 c2)).after ((Below.refl _ _).alloc (Nat.le_refl _) _)
theorem rdx_opt {S : Nat → Prop} {w : World} {X : Nat} {s : Wr} (h : RdAt S w X s) (hS : ∀ b, S b → b ≠ X) (hpl : Pl w) :
    Calls Tryd.prog 50 #[.pointer (some ⟨X, 0, none⟩), .func (.func 51) #[] #[]] w fun e w' => (∃ A1 n1 c1 A2 n2 c2, e = .returned (optV (gV Opt.none (getO 20) s) A1 n1 c1 A2 n2 c2) ∧ OptR (fun b => w.heap.size ≤ b) w' 9223372036854775807 20 A1 n1 c1 A2 n2 c2 (gV Opt.none (getO 20) s)) ∧ RdAt S w' X (gR (getO 20) s) ∧ w.grownBy w' (some X) := rdx_optG (Lib.hid rfl) gdO h hS hpl

end Go.Proofs.Sb

/- Walks over rows.reader's count, end, and columns' names. Conditions: lengths up to 2^47. -/
namespace Sb
/-- how many, in a state -/
theorem cnt_R (s : Wr) : gR getCnt s = mustR (decide (gV 0 getNum s ≤ 4096)) 12 (mustR (decide (0 ≤ gV 0 getNum s)) 11 (gR getNum s)) := by
  cases s with
  | error e => rfl
  | ok cur =>
    cases h : getNum cur with
    | error e => rw [gR_err h, gR_err (bindR_err h : getCnt cur = .error e)]; rfl
    | ok p =>
      obtain ⟨n, r⟩ := p
      have e : getCnt cur = if decide (0 ≤ n) = false then .error 11 else if decide (n ≤ 4096) = false then .error 12 else .ok (n.toNat, r) := bindR_ok h
      rw [gR_ok h, gV_ok h]
      simp only [gR, e, rval_ok, mustR]
      by_cases g1 : 0 ≤ n <;> by_cases g2 : n ≤ 4096 <;> simp [g1, g2]
/-- a number that is got and may be: as the state behind tells -/
theorem cnt_V (s : Wr) : gV 0 getCnt s = (match gR getCnt s with | .ok _ => (gV 0 getNum s).toNat | .error _ => 0) := by
  cases s with
  | error e => rfl
  | ok cur =>
    cases h : getNum cur with
    | error e => rw [gR_err (bindR_err h : getCnt cur = .error e), gV_ok (bindR_err h : getCnt cur = .error e)]; rfl
    | ok p =>
      obtain ⟨n, r⟩ := p
      have e : getCnt cur = if decide (0 ≤ n) = false then .error 11 else if decide (n ≤ 4096) = false then .error 12 else .ok (n.toNat, r) := bindR_ok h
      rw [gV_ok h]
      simp only [gV, gR, e, rval_ok]
      by_cases g1 : 0 ≤ n <;> by_cases g2 : n ≤ 4096 <;> simp [g1, g2]
theorem cnt_le (s : Wr) : gV 0 getCnt s ≤ 4096 := by
  cases s with
  | error e => exact Nat.zero_le _
  | ok cur =>
    cases h : getCnt cur with
    | error e => rw [gV_ok h]; exact Nat.zero_le _
    | ok p =>
      rw [gV_ok h]
      obtain ⟨x, r⟩ := p
      simp only [rval_ok]
      unfold getCnt at h
      cases h1 : getNum cur with
      | error e => rw [bindR_err h1] at h; cases h
      | ok q =>
        obtain ⟨n, r1⟩ := q
        rw [bindR_ok h1] at h
        by_cases g1 : 0 ≤ n <;> by_cases g2 : n ≤ 4096 <;> simp [g1, g2] at h
        omega
/-- how a reading ends -/
def endE : Wr → Int | .ok cur => if cur.length = 0 then 0 else 23 | .error e => e
theorem num_rng (s : Wr) : -2147483648 ≤ gV 0 getNum s ∧ gV 0 getNum s < 2147483648 := by
  have h := (num_R s).2
  have h1 := gV_lt (n := 4) s
  rw [h]
  unfold sgn
  simp only [Nat.reducePow, Nat.reduceDiv] at h1 ⊢
  split <;> omega
end Sb
namespace Go.Proofs.Sb
open Go.RowKit _root_.Sb
set_option maxHeartbeats 2000000 in
set_option maxRecDepth 100000 in
theorem tcnt_any {S : Nat → Prop} {w : World} {X : Nat} {s : Wr} (h : RdAt S w X s) (hS : ∀ b, S b → b ≠ X) :
    Calls Tryd.prog 22 #[.pointer (some ⟨X, 0, none⟩)] w fun e w' => e = .returned (.int .i64 (gV 0 getCnt s : Nat)) ∧ RdAt S w' X (gR getCnt s) ∧ w.grownBy w' (some X) := by
  have HA := Lib.hid h; clear h
  have HS := Lib.hid hS; clear hS
  have HC := Lib.hid (cnt_R s)
  have HV := Lib.hid (cnt_V s)
  have hrng := num_rng s
  go_enter Tryd.func22, Tryd.ntmps22
  go_wp2_with fail
  refine (tnum_any (k := 4) HA.out HS.out (.inr rfl)).mono ?_
  rw [getS4]
  rintro e w1 ⟨rfl, ha1, hg1⟩
  have HA1 := Lib.hid ha1; clear ha1
  have HG1 := Lib.hid hg1; clear hg1
  obtain ⟨n, hn⟩ : ∃ n, n = gV 0 getNum s := ⟨_, rfl⟩
  rw [← hn] at HC HV hrng ⊢
  clear hn
  go_wp2_with fail
  refine (rmust_any (is := decide (0 ≤ n)) (er := 11) HA1.out HS.out (by decide)).mono ?_
  rintro e w2 ⟨rfl, ha2, hg2⟩
  have HA2 := Lib.hid ha2; clear ha2
  have HG2 := Lib.hid hg2; clear hg2
  go_wp2_with fail
  refine (rmust_any (is := decide (n ≤ 4096)) (er := 12) HA2.out HS.out (by decide)).mono ?_
  rintro e w3 ⟨rfl, ha3, hg3⟩
  rw [← HC.out] at ha3
  have HA3 := Lib.hid ha3
  have HG3 := Lib.hid hg3; clear hg3
  have HGR := Lib.hid (grow_seq (grow_seq HG1.out HG2.out fun j e => .inr e) HG3.out fun j e => .inr e)
  obtain ⟨A, m, c, g0, g1, g2, g3, g4⟩ := ha3
  clear g0 g2 g3
  cases hs3 : gR getCnt s with
  | error e =>
    have hne : e ≠ 0 := g4 e hs3
    have hne2 : (e == 0) = false := by simpa using hne
    rw [hs3] at HV g1
    clear hs3 g4 HC
    simp only [werr_error] at g1
    go_wp2_with fail
    go_ret
    exact ⟨by rw [HV.out]; rfl, HA3.out, HGR.out⟩
  | ok cur =>
    rw [hs3] at HV g1
    have hle := cnt_le s
    have h0 : Hid (n = ((gV 0 getCnt s : Nat) : Int)) := by
      have hc := HC.out
      rw [hs3] at hc
      rw [HV.out]
      by_cases q : 0 ≤ n
      · show n = ((n.toNat : Nat) : Int)
        omega
      · exfalso
        rw [decide_eq_false q] at hc
        cases hx : gR getNum s with
        | error e => rw [hx] at hc; cases hc
        | ok c =>
          rw [hx] at hc
          cases hd : decide (n ≤ 4096) <;> rw [hd] at hc <;> simp [mustR] at hc
    clear hs3 g4 HC
    simp only [werr_ok] at g1
    go_wp2_with fail
    go_ret
    exact ⟨by first | rfl | (rw [h0.out]; rfl), HA3.out, HGR.out⟩
set_option maxHeartbeats 2000000 in
set_option maxRecDepth 100000 in
theorem tend_any {S : Nat → Prop} {w : World} {X : Nat} {s : Wr} (h : RdAt S w X s) (hS : ∀ b, S b → b ≠ X) :
    Calls Tryd.prog 26 #[.pointer (some ⟨X, 0, none⟩)] w fun e w' => e = .returned (.int .i64 (endE s)) ∧ (∃ s', RdAt S w' X s') ∧ w.grownBy w' (some X) := by
  have HA := Lib.hid h
  have HS := Lib.hid hS; clear hS
  obtain ⟨A, n, c, h0, h1, h2, h3, h4⟩ := h
  clear h2 h4
  obtain ⟨is, his⟩ : ∃ is : Bool, is = decide (n = 0) := ⟨_, rfl⟩
  have HI := Lib.hid his; clear his
  have HL : Hid (∀ cur, s = .ok cur → n = cur.length) := fun cur e => (h3 cur e).1.len
  clear h3
  go_enter Tryd.func26, Tryd.ntmps26
  go_wp2_with fail
  have hi1 : (((n : Nat) : Int) == 0) = is := by rw [HI.out]; by_cases h : n = 0 <;> simp [h]
  simp only [hi1]
  refine (rmust_any (is := is) (er := 23) HA.out HS.out (by decide)).mono ?_
  rintro e w2 ⟨rfl, ha2, hg2⟩
  have HG2 := Lib.hid hg2; clear hg2
  have HA2 : Hid (∃ s', RdAt S w2 X s') := ⟨_, ha2⟩
  obtain ⟨A2, m2, c2, g0, g1, g2, g3, g4⟩ := ha2
  clear g0 g2 g3 g4 hi1
  go_wp2_with fail
  go_ret
  refine ⟨?_, HA2.out, HG2.out⟩
  cases s with
  | error e => rfl
  | ok cur =>
    have := HL.out cur rfl
    rw [HI.out, this]
    by_cases h : cur.length = 0 <;> simp [h, mustR, endE]
end Go.Proofs.Sb

/- Walks over columns' closures: names, wrong. Conditions: lengths up to 2^47. -/
namespace Sb
theorem nms_R (s : Wr) : gR nmsR s = gR getText (gR getText s) ∧ Tie nmsR s (gV [] getText s, gV [] getText (gR getText s)) := by
  cases s with
  | error e => exact ⟨rfl, Tie.err⟩
  | ok cur =>
    have e0 : nmsR cur = bindR (getText cur) fun x r => bindR (getText r) fun y r2 => .ok ((x, y), r2) := congrFun (eqBoth getText getText) cur
    cases h0 : getText cur with
    | error e =>
      rw [bindR_err h0] at e0
      exact ⟨by rw [gR_err e0, gR_err h0]; rfl, fun c y r h1 h2 => by injection h1 with h1; subst h1; rw [e0] at h2; cases h2⟩
    | ok q =>
      obtain ⟨x, r⟩ := q
      rw [bindR_ok h0] at e0
      rw [gR_ok h0]
      cases h : getText r with
      | error e =>
        rw [bindR_err h] at e0
        exact ⟨by rw [gR_err e0, gR_err h], fun c y r h1 h2 => by injection h1 with h1; subst h1; rw [e0] at h2; cases h2⟩
      | ok p =>
        obtain ⟨y, r2⟩ := p
        rw [bindR_ok h] at e0
        exact ⟨by rw [gR_ok e0, gR_ok h], fun c z r h1 h2 => by injection h1 with h1; subst h1; rw [e0] at h2; injection h2 with h2; injection h2 with h2; rw [gV_ok h0, gV_ok h, ← h2]; rfl⟩
theorem gtext_le (s : Wr) : (gV [] getText s).length ≤ 65535 := by
  cases s with
  | error e => exact Nat.zero_le _
  | ok cur =>
    cases h : getText cur with
    | error e => rw [gV_ok h]; exact Nat.zero_le _
    | ok p => rw [gV_ok h]; exact (getText_ok (x := p.1) (r := p.2) h).1
end Sb
namespace Go.Proofs.Sb
open Go.RowKit _root_.Sb
theorem RdAt.fr {S T : Nat → Prop} {w w' : World} {X : Nat} {s : Wr} (h : RdAt S w X s) (hf : Fr T w w') (hX : ¬ T X) (hS : ∀ b, S b → ¬ T b) : RdAt S w' X s := by
  have hlt := h.lt
  obtain ⟨A, n, c, h0, h1, h2, h3, h4⟩ := h
  exact ⟨A, n, c, hf.cell hX h0, hf.cell hX h1, fun o => hf.froz hX hlt (h2 o), fun cur e => ⟨goesSl.keep (h3 cur e).1 hf.size fun b hb hl => hf.block b hl (hS b hb), (h3 cur e).2⟩, h4⟩
theorem Bx.fr' {S T : Nat → Prop} {w w' : World} {C : Nat} {vs : List Value} (h : Bx S w C vs) (hf : Fr T w w') (hC : ¬ T C) : Bx S w' C vs :=
  ⟨h.role, Nat.lt_of_lt_of_le h.lt hf.size, fun i v e => hf.cell hC (h.c i v e), fun i => hf.froz hC h.lt (h.fr i)⟩
set_option maxHeartbeats 2000000 in
set_option maxRecDepth 100000 in
theorem names_any {S : Nat → Prop} {w : World} {X Y C : Nat} {s : Wr} {v0 v1 : Value} {vs : List Value} (h : RdAt S w X s) (hS : ∀ b, S b → b ≠ X ∧ b ≠ C) (hY : w.cell? ⟨Y, 0, none⟩ = some (.pointer (some ⟨X, 0, none⟩)))
    (hC : Bx (fun b => b = C) w C (v0 :: v1 :: vs)) (hXC : X ≠ C) (hYX : Y ≠ X) (hYC : Y ≠ C) :
    Calls Tryd.prog 47 #[.pointer (some ⟨C, 0, none⟩), .pointer (some ⟨Y, 0, none⟩)] w fun e w' => (e = .returned (.tuple #[])) ∧ (∃ a b : B, Tie nmsR s (a, b) ∧ a.length ≤ 65535 ∧ b.length ≤ 65535 ∧ Bx (fun b => b = C) w' C (.string (str a) :: .string (str b) :: vs)) ∧ RdAt S w' X (gR nmsR s) ∧ Fr (fun b => b = X ∨ b = C) w w' := by
  have HA := Lib.hid h; clear h
  have HS := Lib.hid hS; clear hS
  have HC := Lib.hid hC; clear hC
  have hCl := HC.out.lt
  have hCX : C ≠ X := fun e => hXC e.symm
  have HN := Lib.hid (nms_R s)
  have HL1 := Lib.hid (gtext_le s)
  have HL2 := Lib.hid (gtext_le (gR getText s))
  go_enter Tryd.func47, Tryd.ntmps47
  go_wp2_with fail
  refine (rdx_text HA.out (fun b hb => (HS.out b hb).1)).mono ?_
  rintro e w1 ⟨rfl, ha1, hg1⟩
  have hf1 : Fr (fun b => b = X) w w1 := Fr.of_grown hg1 fun b e => by injection e with e; exact e.symm
  clear hg1
  have hY1 := hf1.cell hYX hY
  clear hY
  have HC1 := Lib.hid (HC.out.fr' hf1 hCX)
  have c0 : w1.cell? ⟨C, 0, none⟩ = some v0 := HC1.out.c 0 _ rfl
  have k0 := HC1.out.fr 0
  obtain ⟨a, ha⟩ : ∃ a, a = gV [] getText s := ⟨_, rfl⟩
  rw [← ha] at HN HL1 ⊢
  clear ha
  have HC2 := Lib.hid (HC1.out.put 0 (.string (str a)) (by simp))
  have hf2 := Fr.set (S := fun b => b = C) w1 (X := C) (i := 0) rfl (.string (str a))
  have HA2 := Lib.hid (ha1.fr hf2 hXC (fun b hb => (HS.out b hb).2))
  have HF1 := Lib.hid hf1
  clear hf1 hf2 ha1
  go_wp2_with fail
  refine (rdx_text HA2.out (fun b hb => (HS.out b hb).1)).mono ?_
  rintro e w2 ⟨rfl, ha3, hg3⟩
  have hf3 : Fr (fun b => b = X) _ w2 := Fr.of_grown hg3 fun b e => by injection e with e; exact e.symm
  clear hg3 c0 k0 hY1
  have HC3 := Lib.hid (HC2.out.fr' hf3 hCX)
  have c1 : w2.cell? ⟨C, 1, none⟩ = some v1 := HC3.out.c 1 _ rfl
  have k1 := HC3.out.fr 1
  obtain ⟨b, hb⟩ : ∃ b, b = gV [] getText (gR getText s) := ⟨_, rfl⟩
  rw [← hb] at HN HL2 ⊢
  clear hb
  have HC4 := Lib.hid (HC3.out.put 1 (.string (str b)) (by simp))
  have hf4 := Fr.set (S := fun b => b = C) w2 (X := C) (i := 1) rfl (.string (str b))
  have HA4 := Lib.hid (ha3.fr hf4 hXC (fun b hb => (HS.out b hb).2))
  have HFF : Hid (Fr (fun b => b = X ∨ b = C) w (w2.setCell ⟨C, 1, none⟩ (.string (str b)))) :=
    (((HF1.out.imp fun b _ e => .inl e).trans (Fr.set w1 (.inr rfl) _)).trans (hf3.imp fun b _ e => .inl e)).trans (hf4.imp fun b _ e => .inr e)
  clear hf3 hf4 ha3
  go_wp2_with fail
  refine bodyPost_end (results_none rfl _ _ _) rfl ?_
  rw [HN.out.1]
  exact ⟨rfl, ⟨a, b, HN.out.2, HL1.out, HL2.out, HC4.out⟩, HA4.out, HFF.out⟩
set_option maxRecDepth 100000 in
theorem wrong_any {w : World} {T k : Nat} {n : Nat} (hT : w.cell? ⟨T, 0, none⟩ = some (.int .i64 (n : Int))) (hk : k < 65536) :
    Calls Tryd.prog 45 #[.int .u16 (k : Int), .pointer (some ⟨T, 0, none⟩)] w fun e w' => e = .returned (.bool (decide (n ≤ k))) ∧ w = w' := by
  go_enter Tryd.func45, Tryd.ntmps45
  go_wp2_with fail
  go_ret
  exact ⟨rfl, rfl⟩
end Go.Proofs.Sb

/- Walks over slices.IndexFunc and ContainsFunc at rows' closures. Conditions: those of the closures. (written by gen_taf.py) -/
namespace Go.Proofs.Sb
open Go.RowKit _root_.Sb
/-- a place of a key -/
def u16P (k : Nat) (v : List Value) : Prop := v = [.int .u16 (k : Int)] ∧ k < 65536
theorem wrongB {w : World} {T k : Nat} {n : Nat} (hT : w.cell? ⟨T, 0, none⟩ = some (.int .i64 (n : Int))) (hk : k < 65536) :
    Calls Tryd.prog 45 #[.int .u16 (k : Int), .pointer (some ⟨T, 0, none⟩)] w fun e w' => e = .returned (.bool (decide (n ≤ k))) ∧ Below w.heap.size w w' :=
  (wrong_any hT hk).mono fun e w' ⟨h1, h2⟩ => ⟨h1, h2 ▸ Below.refl _ _⟩

set_option maxHeartbeats 2000000 in
set_option maxRecDepth 100000 in
theorem idx_u16 {S : Nat → Prop} {w : World} {A : Option Addr} {n c : Nat} {l : List Nat} {T m : Nat} (hT : w.cell? ⟨T, 0, none⟩ = some (.int .i64 (m : Int))) (hl : Arr 1 u16P S w A n c l) :
    Calls Tryd.prog 77 #[.slice A n c, .func (.func 45) #[] #[.pointer (some ⟨T, 0, none⟩)]] w fun e w' => ∃ q : Int, e = .returned (.int .i64 q) ∧ ((q = -1 ∧ ∀ x ∈ l, (decide (m ≤ x)) = false) ∨ ∃ k x, q = ((k : Nat) : Int) ∧ l[k]? = some x ∧ (decide (m ≤ x)) = true ∧ ∀ y ∈ l.take k, (decide (m ≤ y)) = false) ∧ Below w.heap.size w w' := by
  have hlen := Lib.hid hl.len
  have hcap := hl.cap
  have hcm := hl.capMax
  have HS := Lib.hid (hl.mono (S' := fun b => S b ∧ b < w.heap.size) fun _ h1 h2 => ⟨h1, h2⟩); clear hl
  have HT := Lib.hid hT; clear hT
  go_enter Tryd.func77, Tryd.ntmps77
  go_wp2_with fail
  go_loopw [8] (fun i wr => ∃ k : Nat, k ≤ n ∧ i = .int .i64 (k : Nat) ∧ Hid (∀ x ∈ l.take k, (decide (m ≤ x)) = false) ∧ Below w.heap.size w wr) (fun i _ => n - (intOf i).toNat)
  case atStart => exact ⟨0, by omega, rfl, fun x hx => (by cases hx), (by repeat (first | exact Below.refl _ _ | assumption | refine Below.drew ?_ | refine below_drewN ?_ _ | refine Below.alloc ?_ (by first | (simp; done) | omega | (simp; omega)) _ | refine Below.setCell ?_ (by first | (simp; done) | omega | (simp; omega)) _))⟩
  case round =>
    obtain ⟨k, hk, rfl, HQ, hbel⟩ := hrel
    have hsz := hbel.size
    by_cases hlt : k < n
    · obtain ⟨x, hx⟩ : ∃ x, l[k]? = some x := ⟨_, List.getElem?_eq_getElem (by have := hlen.out; omega)⟩
      have HS1 := Lib.hid (HS.out.after hbel)
      obtain ⟨b, off, rfl, hSb, hbs, HC⟩ := HS1.out.at (by decide) (by omega)
      obtain ⟨v, hv1, hp, hv2⟩ := HC k x hx
      obtain ⟨rfl, hx16⟩ := hp
      have hc0 := hv2 0 _ rfl
      simp only [Nat.mul_one, Nat.add_zero] at hc0
      clear hv1 hv2 HC
      have HX := Lib.hid hx; clear hx
      obtain ⟨mv, hmv⟩ : ∃ mv, (decide (m ≤ x)) = mv := ⟨_, rfl⟩
      have HMV := Lib.hid hmv; clear hmv
      go_wp2_with fail
      refine (wrongB (kcell hbel HT.out) hx16).mono ?_
      rintro e1 w1 ⟨rfl, hb1⟩
      rw [HMV.out]
      cases mv with
      | true =>
        go_wp2_with fail
        go_ret
        exact ⟨_, rfl, .inr ⟨k, x, rfl, HX.out, HMV.out, HQ.out⟩, seqB hbel hb1⟩
      | false =>
        go_wp2_with fail
        refine ⟨⟨k + 1, by omega, by go_num, fun y hy => ?_, seqB hbel hb1⟩, by simp [intOf]; omega⟩
        obtain ⟨hkl, hxk⟩ := List.getElem?_eq_some_iff.1 HX.out
        rw [List.take_succ_eq_append_getElem hkl, hxk] at hy
        rcases List.mem_append.1 hy with hy | hy
        · exact HQ.out y hy
        · rw [List.mem_singleton.1 hy]; exact HMV.out
    · obtain rfl : k = n := by omega
      have HALL : Hid (∀ x ∈ l, (decide (m ≤ x)) = false) := by
        have h0 : l.take k = l := List.take_of_length_le (by have := hlen.out; omega)
        have h1 := HQ.out
        rwa [h0] at h1
      go_wp2_with fail
      go_ret
      exact ⟨_, rfl, .inl ⟨rfl, HALL.out⟩, hbel⟩

set_option maxHeartbeats 2000000 in
set_option maxRecDepth 100000 in
theorem con_u16 {S : Nat → Prop} {w : World} {A : Option Addr} {n c : Nat} {l : List Nat} {T m : Nat} (hT : w.cell? ⟨T, 0, none⟩ = some (.int .i64 (m : Int))) (hl : Arr 1 u16P S w A n c l) :
    Calls Tryd.prog 46 #[.slice A n c, .func (.func 45) #[] #[.pointer (some ⟨T, 0, none⟩)]] w fun e w' => e = .returned (.bool (l.any fun x => (decide (m ≤ x)))) ∧ Below w.heap.size w w' := by
  have HL := Lib.hid hl; clear hl
  have HT := Lib.hid hT; clear hT
  obtain ⟨v, hv⟩ : ∃ v, (l.any fun x => (decide (m ≤ x))) = v := ⟨_, rfl⟩
  have HV := Lib.hid hv; clear hv
  go_enter Tryd.func46, Tryd.ntmps46
  go_wp2_with fail
  refine (idx_u16 HT.out HL.out).mono ?_
  rintro e w1 ⟨q, rfl, hq, hb1⟩
  rcases hq with ⟨rfl, hq⟩ | ⟨k, x, rfl, hq, hx, hy⟩
  · have hv0 : v = false := by rw [← HV.out, List.any_eq_false]; intro x hx; rw [hq x hx]; decide
    have HV0 := Lib.hid hv0
    clear hq hv0
    go_wp2_with fail
    go_ret
    exact ⟨by rw [HV.out, HV0.out]; rfl, hb1⟩
  · have hv0 : v = true := by rw [← HV.out, List.any_eq_true]; exact ⟨x, List.mem_of_getElem? hq, hx⟩
    have HV0 := Lib.hid hv0
    clear hq hx hy hv0
    go_wp2_with fail
    go_ret
    exact ⟨by rw [HV.out, HV0.out]; first | rfl | simp, hb1⟩
end Go.Proofs.Sb
