/- Walks over signalboxref09.number and read. Conditions: lengths up to 2^47. (written by gen_rye.py) -/
import Derived.Test.YtfeeeighafflnaaGreatRyc
import Derived.Test.YtfeeeighafflnaaGreatRefb
import Derived.Test.YtfeeeighafflnaaGreatRefd
import Derived.Test.YtfeeeighafflnaaGreatRefe
set_option linter.unusedVariables false
set_option linter.unusedSimpArgs false
namespace Go.Proofs.Sb
open Go.RowKit _root_.Sb

def zeroRf : List Value := [.int .u8 0, .int .u32 0, .string ⟨#[]⟩, .int .u16 0, .int .i32 0, .int .i32 0, .int .i32 0, .int .u8 0, .string ⟨#[]⟩, .string ⟨#[]⟩, .string ⟨#[]⟩, .slice none 0 0, .string ⟨#[]⟩, .slice none 0 0, .int .i64 0, .string ⟨#[]⟩, .string ⟨#[]⟩, .string ⟨#[]⟩, .string ⟨#[]⟩, .int .u32 0, .string ⟨#[]⟩, .string ⟨#[]⟩, .string ⟨#[]⟩, .string ⟨#[]⟩, .slice none 0 0, .int .u32 0, .string ⟨#[]⟩]
theorem sgn4_range {n : Nat} (h : n < 4294967296) : -2147483648 ≤ sgn 4 n ∧ sgn 4 n ≤ 2147483647 := by
  unfold sgn
  simp only [Nat.reducePow, Nat.reduceDiv]
  split <;> omega
theorem num_range {b : B} : -2147483648 ≤ rval 0 (getNum b) ∧ rval 0 (getNum b) ≤ 2147483647 := by
  cases h : getNum b with
  | error e => simp only [rval_error]; omega
  | ok p => obtain ⟨_, _, h1, h2, _⟩ := getNum_ok (n := p.1) (r := p.2) h; exact ⟨h1, h2⟩
set_option maxHeartbeats 2000000 in
set_option maxRecDepth 100000 in
theorem rnumber9_any {S : Nat → Prop} {A : Option Addr} {m c a : Nat} {bs : B} {w : World} (hs : Sl S w A m c bs) (ha : a ≤ m) (r : Res Int) (hr : getNum (bs.drop a) = r) :
    Calls Tryz.prog 38 #[.slice A m c, .int .i64 (a : Int)] w fun e w' => ∃ q : Nat, e = .returned (.tuple #[.int .i32 (rval 0 r), .int .i64 (q : Int), .int .i64 (rerr r)]) ∧ AtR bs q r ∧ Below w.heap.size w w' := by
  have HS := Lib.hid hs; clear hs
  have hrg : -2147483648 ≤ rval 0 r ∧ rval 0 r ≤ 2147483647 := by rw [← hr]; exact num_range
  have HR := Lib.hid hr; clear hr
  go_enter Tryz.func38, Tryz.ntmps38
  go_wp2_with fail
  refine (rnumber_any HS.out ha r HR.out).mono ?_
  rintro e w1 ⟨q, rfl, hq, hb⟩
  have HQ := Lib.hid hq; have HB := Lib.hid hb; clear hq hb
  obtain ⟨v, hv⟩ : ∃ v, rval 0 r = v := ⟨_, rfl⟩
  rw [hv] at hrg ⊢
  have HV := Lib.hid hv
  clear hv
  have hwr : IntKind.i32.wrap v = v := by
    simp [IntKind.wrap, IntKind.bits, IntKind.signed]
    omega
  go_wp2_with fail
  go_ret3
  exact ⟨q, by simp [hwr, HV.out], HQ.out, HB.out⟩
theorem below_of_grown' {N : Nat} {w w' : World} {X : Nat} (h : w.grownBy w' (some X)) (hX : N ≤ X) (hN : N ≤ w.heap.size) : Below N w w' := Below.grown (Below.refl _ _) h hN fun k e => by injection e with e; omega
theorem rvN {n : Nat} {b : B} : rval 0 (getN n b) < 256 ^ n := by
  cases h : getN n b with
  | error e => simp only [rval_error]; exact Nat.pow_pos (by decide)
  | ok p => exact (getN_ok (x := p.1) (r := p.2) h).2.2.2
theorem gi_texts (b : B) : getL (itemR 0) b = rmap (List.map .ofText) (getTexts b) := getL_map _ _ _ (fun b => by unfold itemR rmap; cases getText b <;> rfl) b
theorem gi_multis (b : B) : getL (itemR 2) b = rmap (List.map .ofMulti) (getL multiR b) := getL_map _ _ _ (fun b => by
  unfold itemR rmap multiR bothR
  cases getText b with
  | error e => rfl
  | ok p =>
    obtain ⟨k, r⟩ := p
    simp only
    cases getTexts r <;> rfl) b
theorem err_map {α β : Type} (h : α → β) (r : Res α) : rerr (rmap h r) = rerr r := by cases r <;> rfl
theorem val_map {α β : Type} (h : List α → List β) (hn : h [] = []) (r : Res (List α)) : rval [] (rmap h r) = h (rval [] r) := by cases r with | error e => exact hn.symm | ok p => rfl
theorem at_map {α β : Type} {bs : B} {q : Nat} (h : α → β) {r : Res α} (k : AtR bs q (rmap h r)) : AtR bs q r := ⟨fun x hx => by subst hx; exact k.1 _ rfl, fun e he => by subst he; exact k.2 e rfl⟩
/-- what a letter's reading ends in -/
def RdP (S2 : Nat → Prop) (w : World) (bs : B) (res : Res Rf) (e : Ending) (w' : World) : Prop := ∃ (x' : Rf) (t' : Tfs) (q : Nat), e = .returned (.tuple #[.agg (rfV x' t').toArray, .int .i64 (q : Int), .int .i64 (rerr res)]) ∧ RfR (fun b => S2 b ∨ w.heap.size ≤ b) w' x' t' ∧ (∀ y rest, res = .ok (y, rest) → y = x') ∧ AtR bs q res ∧ Below w.heap.size w w'
theorem at_bind {α : Type} {bs : B} {q : Nat} {r : Res α} {f : α → Rf} (h : AtR bs q r) : AtR bs q (bindR r fun x b => .ok (f x, b)) := by
  cases r with
  | error e => exact ⟨fun _ h => (by cases h), fun _ _ => h.2 e rfl⟩
  | ok p => exact ⟨fun y hy => by injection hy with hy; subst hy; exact h.1 p rfl, fun _ h => by cases h⟩
theorem err_bind {α : Type} {r : Res α} {f : α → Rf} : rerr (bindR r fun x b => .ok (f x, b)) = rerr r := by cases r <;> rfl
theorem is_bind {α : Type} {r : Res α} {d : α} {f : α → Rf} {y : Rf} {rest : B} (h : (bindR r fun x b => .ok (f x, b)) = .ok (y, rest)) : y = f (rval d r) := by
  cases r with
  | error e => cases h
  | ok p => injection h with h; injection h with h _; exact h.symm
theorem rd_99 (x : Rf) (b : B) : readL 99 x b = bindR (getN 4 b) fun v b => .ok ({ x with code := v }, b) := rfl
theorem rd_107 (x : Rf) (b : B) : readL 107 x b = bindR (getN 4 b) fun v b => .ok ({ x with kind := v }, b) := rfl
theorem rd_116 (x : Rf) (b : B) : readL 116 x b = bindR (getText b) fun v b => .ok ({ x with text := v }, b) := rfl
theorem rd_108 (x : Rf) (b : B) : readL 108 x b = bindR (getCons b) fun v b => .ok ({ x with level := v }, b) := rfl
theorem rd_114 (x : Rf) (b : B) : readL 114 x b = bindR (getNum b) fun v b => .ok ({ x with received := v }, b) := rfl
theorem rd_110 (x : Rf) (b : B) : readL 110 x b = bindR (getNum b) fun v b => .ok ({ x with needed := v }, b) := rfl
theorem rd_102 (x : Rf) (b : B) : readL 102 x b = bindR (getNum b) fun v b => .ok ({ x with failures := v }, b) := rfl
theorem rd_100 (x : Rf) (b : B) : readL 100 x b = bindR (getN 1 b) fun v b => .ok ({ x with data := v }, b) := rfl
theorem rd_119 (x : Rf) (b : B) : readL 119 x b = bindR (getText b) fun v b => .ok ({ x with write := v }, b) := rfl
theorem rd_115 (x : Rf) (b : B) : readL 115 x b = bindR (getText b) fun v b => .ok ({ x with space := v }, b) := rfl
theorem rd_101 (x : Rf) (b : B) : readL 101 x b = bindR (getText b) fun v b => .ok ({ x with name := v }, b) := rfl
theorem rd_97 (x : Rf) (b : B) : readL 97 x b = bindR (getTexts b) fun v b => .ok ({ x with args := v }, b) := rfl
theorem rd_105 (x : Rf) (b : B) : readL 105 x b = bindR (getText b) fun v b => .ok ({ x with ident := v }, b) := rfl
theorem rd_109 (x : Rf) (b : B) : readL 109 x b = bindR (getL multiR b) fun v b => .ok ({ x with support := v }, b) := rfl
theorem rd_118 (x : Rf) (b : B) : readL 118 x b = bindR (getValue b) fun v b => .ok ({ x with token := v }, b) := rfl
theorem rd_69 (x : Rf) (b : B) : readL 69 x b = bindR (getText b) fun v b => .ok ({ x with event := v }, b) := rfl
theorem rd_72 (x : Rf) (b : B) : readL 72 x b = bindR (getText b) fun v b => .ok ({ x with what := v }, b) := rfl
theorem rd_65 (x : Rf) (b : B) : readL 65 x b = bindR (getInet b) fun v b => .ok ({ x with addr := v }, b) := rfl
theorem rd_82 (x : Rf) (b : B) : readL 82 x b = .ok ({ x with rest := b }, []) := rfl
theorem rd_87 (x : Rf) (b : B) : readL 87 x b = bindR (getText b) fun v b => .ok ({ x with change := { x.change with what := v } }, b) := rfl
theorem rd_84 (x : Rf) (b : B) : readL 84 x b = bindR (getText b) fun v b => .ok ({ x with change := { x.change with target := v } }, b) := rfl
theorem rd_83 (x : Rf) (b : B) : readL 83 x b = bindR (getText b) fun v b => .ok ({ x with change := { x.change with space := v } }, b) := rfl
theorem rd_78 (x : Rf) (b : B) : readL 78 x b = bindR (getText b) fun v b => .ok ({ x with change := { x.change with name := v } }, b) := rfl
theorem rd_71 (x : Rf) (b : B) : readL 71 x b = bindR (getTexts b) fun v b => .ok ({ x with change := { x.change with args := v } }, b) := rfl

set_option maxHeartbeats 4000000 in
set_option maxRecDepth 100000 in
theorem rrd_c {S S2 : Nat → Prop} {A : Option Addr} {m c a : Nat} {bs : B} {x : Rf} {t : Tfs} {w : World} (hs : Sl S w A m c bs) (hm : m ≤ 140737488355328) (ha : a ≤ m) (hR : RfR S2 w x t) :
    Calls Tryz.prog 19 #[.agg (rfV x t).toArray, .int .u8 99, .slice A m c, .int .i64 (a : Int)] w fun e w' => RdP S2 w bs (readL 99 x (bs.drop a)) e w' := by
  have HR := Lib.hid (goesRf.mono (S' := fun b => S2 b ∧ b < w.heap.size) hR fun b h1 h2 => ⟨h1, h2⟩); clear hR
  have hcp := hs.cap
  have hcm := hs.capMax
  have hln := Lib.hid hs.len
  have HS := Lib.hid hs; clear hs
  obtain ⟨w1, hw1⟩ : ∃ w1, w1 = (w.alloc (.cells (rfV x t).toArray 54)).alloc (.cells #[.int .u8 0, .int .u32 0, .string ⟨#[]⟩, .int .u16 0, .int .i32 0, .int .i32 0, .int .i32 0, .int .u8 0, .string ⟨#[]⟩, .string ⟨#[]⟩, .string ⟨#[]⟩, .slice none 0 0, .string ⟨#[]⟩, .slice none 0 0, .int .i64 0, .string ⟨#[]⟩, .string ⟨#[]⟩, .string ⟨#[]⟩, .string ⟨#[]⟩, .int .u32 0, .string ⟨#[]⟩, .string ⟨#[]⟩, .string ⟨#[]⟩, .string ⟨#[]⟩, .slice none 0 0, .int .u32 0, .string ⟨#[]⟩] 54) := ⟨_, rfl⟩
  have b1 : Below w.heap.size w (w.alloc (.cells (rfV x t).toArray 54)) := (Below.refl _ _).alloc (Nat.le_refl _) _
  have hz0 : (w.alloc (.cells (rfV x t).toArray 54)).heap.size = w.heap.size + 1 := World.size_alloc _ _
  have hsz : w1.heap.size = w.heap.size + 1 + 1 := by rw [hw1]; simp
  have b2 : Below (w.alloc (.cells (rfV x t).toArray 54)).heap.size (w.alloc (.cells (rfV x t).toArray 54)) w1 := by rw [hw1]; exact (Below.refl _ _).alloc (Nat.le_refl _) _
  have HB1 : Hid (Below w.heap.size w w1) := Lib.hid (seqB b1 b2)
  have HX1 : Hid (Bx (fun b => b = w.heap.size) w1 w.heap.size (rfV x t)) := Lib.hid (Bx.after (Bx.alloc w (rfV x t).toArray 54 (S := fun b => b = w.heap.size) rfl rfl) b2)
  have HY1 : Hid (Bx (fun b => b = w.heap.size + 1) w1 (w.heap.size + 1) zeroRf) := Lib.hid (by rw [hw1]; exact Bx.alloc _ #[.int .u8 0, .int .u32 0, .string ⟨#[]⟩, .int .u16 0, .int .i32 0, .int .i32 0, .int .i32 0, .int .u8 0, .string ⟨#[]⟩, .string ⟨#[]⟩, .string ⟨#[]⟩, .slice none 0 0, .string ⟨#[]⟩, .slice none 0 0, .int .i64 0, .string ⟨#[]⟩, .string ⟨#[]⟩, .string ⟨#[]⟩, .string ⟨#[]⟩, .int .u32 0, .string ⟨#[]⟩, .string ⟨#[]⟩, .string ⟨#[]⟩, .string ⟨#[]⟩, .slice none 0 0, .int .u32 0, .string ⟨#[]⟩] 54 (X := w.heap.size + 1) (S := fun b => b = w.heap.size + 1) (by simp) (by simp))
  have HW := Lib.hid hw1; have HSZ := Lib.hid hsz
  clear hw1 b1 b2 hz0 hsz
  go_enter Tryz.func19, Tryz.ntmps19
  go_upto_region 1 with fail
  rw [show ((w.alloc (.cells (rfV x t).toArray 54)).alloc (.cells #[.int .u8 0, .int .u32 0, .string ⟨#[]⟩, .int .u16 0, .int .i32 0, .int .i32 0, .int .i32 0, .int .u8 0, .string ⟨#[]⟩, .string ⟨#[]⟩, .string ⟨#[]⟩, .slice none 0 0, .string ⟨#[]⟩, .slice none 0 0, .int .i64 0, .string ⟨#[]⟩, .string ⟨#[]⟩, .string ⟨#[]⟩, .string ⟨#[]⟩, .int .u32 0, .string ⟨#[]⟩, .string ⟨#[]⟩, .string ⟨#[]⟩, .string ⟨#[]⟩, .slice none 0 0, .int .u32 0, .string ⟨#[]⟩] 54)) = w1 from HW.out.symm]
  have hlx : w.heap.size < w1.heap.size := by have := HSZ.out; omega
  have hly : w.heap.size + 1 < w1.heap.size := by have := HSZ.out; omega
  go_wp2_with fail
  refine (rget_any (S := S) (n := 4) (a := a) (HS.out.after HB1.out) ha (by decide) (by decide) _ rfl).mono ?_
  rintro e w2 ⟨q, rfl, hq, rfl⟩
  obtain ⟨w2, hw2⟩ : ∃ w2, w2 = w1 := ⟨_, rfl⟩
  have hb : Below w1.heap.size w1 w2 := by rw [hw2]; exact Below.refl _ _
  rw [← hw2]
  clear hw2
  have HQ := Lib.hid hq; clear hq
  have HB2 : Hid (Below w.heap.size w w2) := Lib.hid (Below.trans HB1.out (hb.mono (by have := HSZ.out; omega)))
  have HX2 := Lib.hid (goesBx.after HX1.out hb)
  have HY2 := Lib.hid (goesBx.after HY1.out hb)
  have hlx2 := HX2.out.lt
  have hly2 := HY2.out.lt
  clear hlx hly
  have HRE : Hid (rerr (readL 99 x (bs.drop a)) = rerr (getN 4 (bs.drop a))) := Lib.hid (by rw [rd_99]; exact err_bind)
  obtain ⟨er, her⟩ : ∃ er, rerr (getN 4 (bs.drop a)) = er := ⟨_, rfl⟩
  rw [her] at HRE ⊢
  clear her
  obtain ⟨v, hv⟩ : ∃ v, rval 0 (getN 4 (bs.drop a)) = v := ⟨_, rfl⟩
  rw [hv]
  have hvl : v < 4294967296 := by rw [← hv]; exact rvN (n := 4)
  have HV := Lib.hid hv; clear hv
  have kf := HX2.out.c 1 _ rfl
  have ff := HX2.out.fr 1
  go_upto_region 57 with fail
  clear kf ff
  have HX3 : Hid (Bx (fun b => b = w.heap.size) (w2.setCell ⟨w.heap.size, 1, none⟩ (.int .u32 ((v : Nat) : Int))) w.heap.size (rfV { x with code := v } t)) := Lib.hid (HX2.out.put 1 (.int .u32 ((v : Nat) : Int)) (by show 1 < 27; decide))
  have HY3 : Hid (Bx (fun b => b = w.heap.size + 1) (w2.setCell ⟨w.heap.size, 1, none⟩ (.int .u32 ((v : Nat) : Int))) (w.heap.size + 1) zeroRf) := Lib.hid (goesBx.keep HY2.out (by simp) fun b hb hl => Below.heap_setCell _ ⟨w.heap.size, 1, none⟩ _ b (by show b ≠ w.heap.size; omega))
  have HB3 : Hid (Below w.heap.size w (w2.setCell ⟨w.heap.size, 1, none⟩ (.int .u32 ((v : Nat) : Int)))) := Lib.hid (HB2.out.setCell (Nat.le_refl _) _)
  have HR3 : Hid (RfR (fun b => S2 b ∧ b < w.heap.size) (w2.setCell ⟨w.heap.size, 1, none⟩ (.int .u32 ((v : Nat) : Int))) { x with code := v } t) := Lib.hid (⟨(goesRf.after HR.out HB3.out).fa, (goesRf.after HR.out HB3.out).su, (goesRf.after HR.out HB3.out).cg⟩)
  go_wp2_with (first | (refine wpList_loadB HX3.out (by rfl) 54 _ (by rfl) (by rfl) _ Tryz.underlying54 rfl (by kernel_rfl) ?_) | (refine wpList_storeB HY3.out (by rfl) 54 _ _ (by rfl) 0 (rfV { x with code := v } t) (by rfl) (by rfl) (by kernel_rfl) (by show 0 + 27 ≤ 27; decide) (by rfl) ?_; intro w9 hb9 hg9; have HY9 := Lib.hid hb9; have HG9 := Lib.hid hg9; clear hb9 hg9))
  refine bodyPost_ret (results_box3 (vs := rfV { x with code := v } t) rfl HY9.out (by rfl) (by rfl) (by rfl) _ Tryz.underlying54 rfl (by kernel_rfl)) rfl ?_
  have hgz := HG9.out.size
  have HB9 : Below w.heap.size w w9 := Below.trans HB3.out (below_of_grown' HG9.out (by omega) HB3.out.size)
  refine ⟨{ x with code := v }, t, q, by rw [HRE.out]; rfl, goesRf.mono (goesRf.keep HR3.out HG9.out.size fun b hb hl => HG9.out.block b hl (fun e => by have := hb.2; injection e with e; omega)) (fun b hb _ => .inl hb.1), fun y rest h => ?_, by rw [rd_99]; exact at_bind HQ.out, HB9⟩
  rw [← HV.out]
  rw [rd_99] at h
  exact is_bind h

set_option maxHeartbeats 4000000 in
set_option maxRecDepth 100000 in
theorem rrd_k {S S2 : Nat → Prop} {A : Option Addr} {m c a : Nat} {bs : B} {x : Rf} {t : Tfs} {w : World} (hs : Sl S w A m c bs) (hm : m ≤ 140737488355328) (ha : a ≤ m) (hR : RfR S2 w x t) :
    Calls Tryz.prog 19 #[.agg (rfV x t).toArray, .int .u8 107, .slice A m c, .int .i64 (a : Int)] w fun e w' => RdP S2 w bs (readL 107 x (bs.drop a)) e w' := by
  have HR := Lib.hid (goesRf.mono (S' := fun b => S2 b ∧ b < w.heap.size) hR fun b h1 h2 => ⟨h1, h2⟩); clear hR
  have hcp := hs.cap
  have hcm := hs.capMax
  have hln := Lib.hid hs.len
  have HS := Lib.hid hs; clear hs
  obtain ⟨w1, hw1⟩ : ∃ w1, w1 = (w.alloc (.cells (rfV x t).toArray 54)).alloc (.cells #[.int .u8 0, .int .u32 0, .string ⟨#[]⟩, .int .u16 0, .int .i32 0, .int .i32 0, .int .i32 0, .int .u8 0, .string ⟨#[]⟩, .string ⟨#[]⟩, .string ⟨#[]⟩, .slice none 0 0, .string ⟨#[]⟩, .slice none 0 0, .int .i64 0, .string ⟨#[]⟩, .string ⟨#[]⟩, .string ⟨#[]⟩, .string ⟨#[]⟩, .int .u32 0, .string ⟨#[]⟩, .string ⟨#[]⟩, .string ⟨#[]⟩, .string ⟨#[]⟩, .slice none 0 0, .int .u32 0, .string ⟨#[]⟩] 54) := ⟨_, rfl⟩
  have b1 : Below w.heap.size w (w.alloc (.cells (rfV x t).toArray 54)) := (Below.refl _ _).alloc (Nat.le_refl _) _
  have hz0 : (w.alloc (.cells (rfV x t).toArray 54)).heap.size = w.heap.size + 1 := World.size_alloc _ _
  have hsz : w1.heap.size = w.heap.size + 1 + 1 := by rw [hw1]; simp
  have b2 : Below (w.alloc (.cells (rfV x t).toArray 54)).heap.size (w.alloc (.cells (rfV x t).toArray 54)) w1 := by rw [hw1]; exact (Below.refl _ _).alloc (Nat.le_refl _) _
  have HB1 : Hid (Below w.heap.size w w1) := Lib.hid (seqB b1 b2)
  have HX1 : Hid (Bx (fun b => b = w.heap.size) w1 w.heap.size (rfV x t)) := Lib.hid (Bx.after (Bx.alloc w (rfV x t).toArray 54 (S := fun b => b = w.heap.size) rfl rfl) b2)
  have HY1 : Hid (Bx (fun b => b = w.heap.size + 1) w1 (w.heap.size + 1) zeroRf) := Lib.hid (by rw [hw1]; exact Bx.alloc _ #[.int .u8 0, .int .u32 0, .string ⟨#[]⟩, .int .u16 0, .int .i32 0, .int .i32 0, .int .i32 0, .int .u8 0, .string ⟨#[]⟩, .string ⟨#[]⟩, .string ⟨#[]⟩, .slice none 0 0, .string ⟨#[]⟩, .slice none 0 0, .int .i64 0, .string ⟨#[]⟩, .string ⟨#[]⟩, .string ⟨#[]⟩, .string ⟨#[]⟩, .int .u32 0, .string ⟨#[]⟩, .string ⟨#[]⟩, .string ⟨#[]⟩, .string ⟨#[]⟩, .slice none 0 0, .int .u32 0, .string ⟨#[]⟩] 54 (X := w.heap.size + 1) (S := fun b => b = w.heap.size + 1) (by simp) (by simp))
  have HW := Lib.hid hw1; have HSZ := Lib.hid hsz
  clear hw1 b1 b2 hz0 hsz
  go_enter Tryz.func19, Tryz.ntmps19
  go_upto_region 1 with fail
  rw [show ((w.alloc (.cells (rfV x t).toArray 54)).alloc (.cells #[.int .u8 0, .int .u32 0, .string ⟨#[]⟩, .int .u16 0, .int .i32 0, .int .i32 0, .int .i32 0, .int .u8 0, .string ⟨#[]⟩, .string ⟨#[]⟩, .string ⟨#[]⟩, .slice none 0 0, .string ⟨#[]⟩, .slice none 0 0, .int .i64 0, .string ⟨#[]⟩, .string ⟨#[]⟩, .string ⟨#[]⟩, .string ⟨#[]⟩, .int .u32 0, .string ⟨#[]⟩, .string ⟨#[]⟩, .string ⟨#[]⟩, .string ⟨#[]⟩, .slice none 0 0, .int .u32 0, .string ⟨#[]⟩] 54)) = w1 from HW.out.symm]
  have hlx : w.heap.size < w1.heap.size := by have := HSZ.out; omega
  have hly : w.heap.size + 1 < w1.heap.size := by have := HSZ.out; omega
  go_wp2_with fail
  refine (rget_any (S := S) (n := 4) (a := a) (HS.out.after HB1.out) ha (by decide) (by decide) _ rfl).mono ?_
  rintro e w2 ⟨q, rfl, hq, rfl⟩
  obtain ⟨w2, hw2⟩ : ∃ w2, w2 = w1 := ⟨_, rfl⟩
  have hb : Below w1.heap.size w1 w2 := by rw [hw2]; exact Below.refl _ _
  rw [← hw2]
  clear hw2
  have HQ := Lib.hid hq; clear hq
  have HB2 : Hid (Below w.heap.size w w2) := Lib.hid (Below.trans HB1.out (hb.mono (by have := HSZ.out; omega)))
  have HX2 := Lib.hid (goesBx.after HX1.out hb)
  have HY2 := Lib.hid (goesBx.after HY1.out hb)
  have hlx2 := HX2.out.lt
  have hly2 := HY2.out.lt
  clear hlx hly
  have HRE : Hid (rerr (readL 107 x (bs.drop a)) = rerr (getN 4 (bs.drop a))) := Lib.hid (by rw [rd_107]; exact err_bind)
  obtain ⟨er, her⟩ : ∃ er, rerr (getN 4 (bs.drop a)) = er := ⟨_, rfl⟩
  rw [her] at HRE ⊢
  clear her
  obtain ⟨v, hv⟩ : ∃ v, rval 0 (getN 4 (bs.drop a)) = v := ⟨_, rfl⟩
  rw [hv]
  have hvl : v < 4294967296 := by rw [← hv]; exact rvN (n := 4)
  have HV := Lib.hid hv; clear hv
  have kf := HX2.out.c 25 _ rfl
  have ff := HX2.out.fr 25
  go_upto_region 57 with fail
  clear kf ff
  have HX3 : Hid (Bx (fun b => b = w.heap.size) (w2.setCell ⟨w.heap.size, 25, none⟩ (.int .u32 ((v : Nat) : Int))) w.heap.size (rfV { x with kind := v } t)) := Lib.hid (HX2.out.put 25 (.int .u32 ((v : Nat) : Int)) (by show 25 < 27; decide))
  have HY3 : Hid (Bx (fun b => b = w.heap.size + 1) (w2.setCell ⟨w.heap.size, 25, none⟩ (.int .u32 ((v : Nat) : Int))) (w.heap.size + 1) zeroRf) := Lib.hid (goesBx.keep HY2.out (by simp) fun b hb hl => Below.heap_setCell _ ⟨w.heap.size, 25, none⟩ _ b (by show b ≠ w.heap.size; omega))
  have HB3 : Hid (Below w.heap.size w (w2.setCell ⟨w.heap.size, 25, none⟩ (.int .u32 ((v : Nat) : Int)))) := Lib.hid (HB2.out.setCell (Nat.le_refl _) _)
  have HR3 : Hid (RfR (fun b => S2 b ∧ b < w.heap.size) (w2.setCell ⟨w.heap.size, 25, none⟩ (.int .u32 ((v : Nat) : Int))) { x with kind := v } t) := Lib.hid (⟨(goesRf.after HR.out HB3.out).fa, (goesRf.after HR.out HB3.out).su, (goesRf.after HR.out HB3.out).cg⟩)
  go_wp2_with (first | (refine wpList_loadB HX3.out (by rfl) 54 _ (by rfl) (by rfl) _ Tryz.underlying54 rfl (by kernel_rfl) ?_) | (refine wpList_storeB HY3.out (by rfl) 54 _ _ (by rfl) 0 (rfV { x with kind := v } t) (by rfl) (by rfl) (by kernel_rfl) (by show 0 + 27 ≤ 27; decide) (by rfl) ?_; intro w9 hb9 hg9; have HY9 := Lib.hid hb9; have HG9 := Lib.hid hg9; clear hb9 hg9))
  refine bodyPost_ret (results_box3 (vs := rfV { x with kind := v } t) rfl HY9.out (by rfl) (by rfl) (by rfl) _ Tryz.underlying54 rfl (by kernel_rfl)) rfl ?_
  have hgz := HG9.out.size
  have HB9 : Below w.heap.size w w9 := Below.trans HB3.out (below_of_grown' HG9.out (by omega) HB3.out.size)
  refine ⟨{ x with kind := v }, t, q, by rw [HRE.out]; rfl, goesRf.mono (goesRf.keep HR3.out HG9.out.size fun b hb hl => HG9.out.block b hl (fun e => by have := hb.2; injection e with e; omega)) (fun b hb _ => .inl hb.1), fun y rest h => ?_, by rw [rd_107]; exact at_bind HQ.out, HB9⟩
  rw [← HV.out]
  rw [rd_107] at h
  exact is_bind h

set_option maxHeartbeats 4000000 in
set_option maxRecDepth 100000 in
theorem rrd_t {S S2 : Nat → Prop} {A : Option Addr} {m c a : Nat} {bs : B} {x : Rf} {t : Tfs} {w : World} (hs : Sl S w A m c bs) (hm : m ≤ 140737488355328) (ha : a ≤ m) (hR : RfR S2 w x t) :
    Calls Tryz.prog 19 #[.agg (rfV x t).toArray, .int .u8 116, .slice A m c, .int .i64 (a : Int)] w fun e w' => RdP S2 w bs (readL 116 x (bs.drop a)) e w' := by
  have HR := Lib.hid (goesRf.mono (S' := fun b => S2 b ∧ b < w.heap.size) hR fun b h1 h2 => ⟨h1, h2⟩); clear hR
  have hcp := hs.cap
  have hcm := hs.capMax
  have hln := Lib.hid hs.len
  have HS := Lib.hid hs; clear hs
  obtain ⟨w1, hw1⟩ : ∃ w1, w1 = (w.alloc (.cells (rfV x t).toArray 54)).alloc (.cells #[.int .u8 0, .int .u32 0, .string ⟨#[]⟩, .int .u16 0, .int .i32 0, .int .i32 0, .int .i32 0, .int .u8 0, .string ⟨#[]⟩, .string ⟨#[]⟩, .string ⟨#[]⟩, .slice none 0 0, .string ⟨#[]⟩, .slice none 0 0, .int .i64 0, .string ⟨#[]⟩, .string ⟨#[]⟩, .string ⟨#[]⟩, .string ⟨#[]⟩, .int .u32 0, .string ⟨#[]⟩, .string ⟨#[]⟩, .string ⟨#[]⟩, .string ⟨#[]⟩, .slice none 0 0, .int .u32 0, .string ⟨#[]⟩] 54) := ⟨_, rfl⟩
  have b1 : Below w.heap.size w (w.alloc (.cells (rfV x t).toArray 54)) := (Below.refl _ _).alloc (Nat.le_refl _) _
  have hz0 : (w.alloc (.cells (rfV x t).toArray 54)).heap.size = w.heap.size + 1 := World.size_alloc _ _
  have hsz : w1.heap.size = w.heap.size + 1 + 1 := by rw [hw1]; simp
  have b2 : Below (w.alloc (.cells (rfV x t).toArray 54)).heap.size (w.alloc (.cells (rfV x t).toArray 54)) w1 := by rw [hw1]; exact (Below.refl _ _).alloc (Nat.le_refl _) _
  have HB1 : Hid (Below w.heap.size w w1) := Lib.hid (seqB b1 b2)
  have HX1 : Hid (Bx (fun b => b = w.heap.size) w1 w.heap.size (rfV x t)) := Lib.hid (Bx.after (Bx.alloc w (rfV x t).toArray 54 (S := fun b => b = w.heap.size) rfl rfl) b2)
  have HY1 : Hid (Bx (fun b => b = w.heap.size + 1) w1 (w.heap.size + 1) zeroRf) := Lib.hid (by rw [hw1]; exact Bx.alloc _ #[.int .u8 0, .int .u32 0, .string ⟨#[]⟩, .int .u16 0, .int .i32 0, .int .i32 0, .int .i32 0, .int .u8 0, .string ⟨#[]⟩, .string ⟨#[]⟩, .string ⟨#[]⟩, .slice none 0 0, .string ⟨#[]⟩, .slice none 0 0, .int .i64 0, .string ⟨#[]⟩, .string ⟨#[]⟩, .string ⟨#[]⟩, .string ⟨#[]⟩, .int .u32 0, .string ⟨#[]⟩, .string ⟨#[]⟩, .string ⟨#[]⟩, .string ⟨#[]⟩, .slice none 0 0, .int .u32 0, .string ⟨#[]⟩] 54 (X := w.heap.size + 1) (S := fun b => b = w.heap.size + 1) (by simp) (by simp))
  have HW := Lib.hid hw1; have HSZ := Lib.hid hsz
  clear hw1 b1 b2 hz0 hsz
  go_enter Tryz.func19, Tryz.ntmps19
  go_upto_region 1 with fail
  rw [show ((w.alloc (.cells (rfV x t).toArray 54)).alloc (.cells #[.int .u8 0, .int .u32 0, .string ⟨#[]⟩, .int .u16 0, .int .i32 0, .int .i32 0, .int .i32 0, .int .u8 0, .string ⟨#[]⟩, .string ⟨#[]⟩, .string ⟨#[]⟩, .slice none 0 0, .string ⟨#[]⟩, .slice none 0 0, .int .i64 0, .string ⟨#[]⟩, .string ⟨#[]⟩, .string ⟨#[]⟩, .string ⟨#[]⟩, .int .u32 0, .string ⟨#[]⟩, .string ⟨#[]⟩, .string ⟨#[]⟩, .string ⟨#[]⟩, .slice none 0 0, .int .u32 0, .string ⟨#[]⟩] 54)) = w1 from HW.out.symm]
  have hlx : w.heap.size < w1.heap.size := by have := HSZ.out; omega
  have hly : w.heap.size + 1 < w1.heap.size := by have := HSZ.out; omega
  go_wp2_with fail
  refine (rgetText_any (S := S) (a := a) (HS.out.after HB1.out) hm ha _ rfl).mono ?_
  rintro e w2 ⟨q, rfl, hq, rfl⟩
  obtain ⟨w2, hw2⟩ : ∃ w2, w2 = w1 := ⟨_, rfl⟩
  have hb : Below w1.heap.size w1 w2 := by rw [hw2]; exact Below.refl _ _
  rw [← hw2]
  clear hw2
  have HQ := Lib.hid hq; clear hq
  have HB2 : Hid (Below w.heap.size w w2) := Lib.hid (Below.trans HB1.out (hb.mono (by have := HSZ.out; omega)))
  have HX2 := Lib.hid (goesBx.after HX1.out hb)
  have HY2 := Lib.hid (goesBx.after HY1.out hb)
  have hlx2 := HX2.out.lt
  have hly2 := HY2.out.lt
  clear hlx hly
  have HRE : Hid (rerr (readL 116 x (bs.drop a)) = rerr (getText (bs.drop a))) := Lib.hid (by rw [rd_116]; exact err_bind)
  obtain ⟨er, her⟩ : ∃ er, rerr (getText (bs.drop a)) = er := ⟨_, rfl⟩
  rw [her] at HRE ⊢
  clear her
  obtain ⟨v, hv⟩ : ∃ v, rval [] (getText (bs.drop a)) = v := ⟨_, rfl⟩
  rw [hv]
  have HV := Lib.hid hv; clear hv
  have kf := HX2.out.c 2 _ rfl
  have ff := HX2.out.fr 2
  go_upto_region 57 with fail
  clear kf ff
  have HX3 : Hid (Bx (fun b => b = w.heap.size) (w2.setCell ⟨w.heap.size, 2, none⟩ (.string (str v))) w.heap.size (rfV { x with text := v } t)) := Lib.hid (HX2.out.put 2 (.string (str v)) (by show 2 < 27; decide))
  have HY3 : Hid (Bx (fun b => b = w.heap.size + 1) (w2.setCell ⟨w.heap.size, 2, none⟩ (.string (str v))) (w.heap.size + 1) zeroRf) := Lib.hid (goesBx.keep HY2.out (by simp) fun b hb hl => Below.heap_setCell _ ⟨w.heap.size, 2, none⟩ _ b (by show b ≠ w.heap.size; omega))
  have HB3 : Hid (Below w.heap.size w (w2.setCell ⟨w.heap.size, 2, none⟩ (.string (str v)))) := Lib.hid (HB2.out.setCell (Nat.le_refl _) _)
  have HR3 : Hid (RfR (fun b => S2 b ∧ b < w.heap.size) (w2.setCell ⟨w.heap.size, 2, none⟩ (.string (str v))) { x with text := v } t) := Lib.hid (⟨(goesRf.after HR.out HB3.out).fa, (goesRf.after HR.out HB3.out).su, (goesRf.after HR.out HB3.out).cg⟩)
  go_wp2_with (first | (refine wpList_loadB HX3.out (by rfl) 54 _ (by rfl) (by rfl) _ Tryz.underlying54 rfl (by kernel_rfl) ?_) | (refine wpList_storeB HY3.out (by rfl) 54 _ _ (by rfl) 0 (rfV { x with text := v } t) (by rfl) (by rfl) (by kernel_rfl) (by show 0 + 27 ≤ 27; decide) (by rfl) ?_; intro w9 hb9 hg9; have HY9 := Lib.hid hb9; have HG9 := Lib.hid hg9; clear hb9 hg9))
  refine bodyPost_ret (results_box3 (vs := rfV { x with text := v } t) rfl HY9.out (by rfl) (by rfl) (by rfl) _ Tryz.underlying54 rfl (by kernel_rfl)) rfl ?_
  have hgz := HG9.out.size
  have HB9 : Below w.heap.size w w9 := Below.trans HB3.out (below_of_grown' HG9.out (by omega) HB3.out.size)
  refine ⟨{ x with text := v }, t, q, by rw [HRE.out]; rfl, goesRf.mono (goesRf.keep HR3.out HG9.out.size fun b hb hl => HG9.out.block b hl (fun e => by have := hb.2; injection e with e; omega)) (fun b hb _ => .inl hb.1), fun y rest h => ?_, by rw [rd_116]; exact at_bind HQ.out, HB9⟩
  rw [← HV.out]
  rw [rd_116] at h
  exact is_bind h

set_option maxHeartbeats 4000000 in
set_option maxRecDepth 100000 in
theorem rrd_l {S S2 : Nat → Prop} {A : Option Addr} {m c a : Nat} {bs : B} {x : Rf} {t : Tfs} {w : World} (hs : Sl S w A m c bs) (hm : m ≤ 140737488355328) (ha : a ≤ m) (hR : RfR S2 w x t) :
    Calls Tryz.prog 19 #[.agg (rfV x t).toArray, .int .u8 108, .slice A m c, .int .i64 (a : Int)] w fun e w' => RdP S2 w bs (readL 108 x (bs.drop a)) e w' := by
  have HR := Lib.hid (goesRf.mono (S' := fun b => S2 b ∧ b < w.heap.size) hR fun b h1 h2 => ⟨h1, h2⟩); clear hR
  have hcp := hs.cap
  have hcm := hs.capMax
  have hln := Lib.hid hs.len
  have HS := Lib.hid hs; clear hs
  obtain ⟨w1, hw1⟩ : ∃ w1, w1 = (w.alloc (.cells (rfV x t).toArray 54)).alloc (.cells #[.int .u8 0, .int .u32 0, .string ⟨#[]⟩, .int .u16 0, .int .i32 0, .int .i32 0, .int .i32 0, .int .u8 0, .string ⟨#[]⟩, .string ⟨#[]⟩, .string ⟨#[]⟩, .slice none 0 0, .string ⟨#[]⟩, .slice none 0 0, .int .i64 0, .string ⟨#[]⟩, .string ⟨#[]⟩, .string ⟨#[]⟩, .string ⟨#[]⟩, .int .u32 0, .string ⟨#[]⟩, .string ⟨#[]⟩, .string ⟨#[]⟩, .string ⟨#[]⟩, .slice none 0 0, .int .u32 0, .string ⟨#[]⟩] 54) := ⟨_, rfl⟩
  have b1 : Below w.heap.size w (w.alloc (.cells (rfV x t).toArray 54)) := (Below.refl _ _).alloc (Nat.le_refl _) _
  have hz0 : (w.alloc (.cells (rfV x t).toArray 54)).heap.size = w.heap.size + 1 := World.size_alloc _ _
  have hsz : w1.heap.size = w.heap.size + 1 + 1 := by rw [hw1]; simp
  have b2 : Below (w.alloc (.cells (rfV x t).toArray 54)).heap.size (w.alloc (.cells (rfV x t).toArray 54)) w1 := by rw [hw1]; exact (Below.refl _ _).alloc (Nat.le_refl _) _
  have HB1 : Hid (Below w.heap.size w w1) := Lib.hid (seqB b1 b2)
  have HX1 : Hid (Bx (fun b => b = w.heap.size) w1 w.heap.size (rfV x t)) := Lib.hid (Bx.after (Bx.alloc w (rfV x t).toArray 54 (S := fun b => b = w.heap.size) rfl rfl) b2)
  have HY1 : Hid (Bx (fun b => b = w.heap.size + 1) w1 (w.heap.size + 1) zeroRf) := Lib.hid (by rw [hw1]; exact Bx.alloc _ #[.int .u8 0, .int .u32 0, .string ⟨#[]⟩, .int .u16 0, .int .i32 0, .int .i32 0, .int .i32 0, .int .u8 0, .string ⟨#[]⟩, .string ⟨#[]⟩, .string ⟨#[]⟩, .slice none 0 0, .string ⟨#[]⟩, .slice none 0 0, .int .i64 0, .string ⟨#[]⟩, .string ⟨#[]⟩, .string ⟨#[]⟩, .string ⟨#[]⟩, .int .u32 0, .string ⟨#[]⟩, .string ⟨#[]⟩, .string ⟨#[]⟩, .string ⟨#[]⟩, .slice none 0 0, .int .u32 0, .string ⟨#[]⟩] 54 (X := w.heap.size + 1) (S := fun b => b = w.heap.size + 1) (by simp) (by simp))
  have HW := Lib.hid hw1; have HSZ := Lib.hid hsz
  clear hw1 b1 b2 hz0 hsz
  go_enter Tryz.func19, Tryz.ntmps19
  go_upto_region 1 with fail
  rw [show ((w.alloc (.cells (rfV x t).toArray 54)).alloc (.cells #[.int .u8 0, .int .u32 0, .string ⟨#[]⟩, .int .u16 0, .int .i32 0, .int .i32 0, .int .i32 0, .int .u8 0, .string ⟨#[]⟩, .string ⟨#[]⟩, .string ⟨#[]⟩, .slice none 0 0, .string ⟨#[]⟩, .slice none 0 0, .int .i64 0, .string ⟨#[]⟩, .string ⟨#[]⟩, .string ⟨#[]⟩, .string ⟨#[]⟩, .int .u32 0, .string ⟨#[]⟩, .string ⟨#[]⟩, .string ⟨#[]⟩, .string ⟨#[]⟩, .slice none 0 0, .int .u32 0, .string ⟨#[]⟩] 54)) = w1 from HW.out.symm]
  have hlx : w.heap.size < w1.heap.size := by have := HSZ.out; omega
  have hly : w.heap.size + 1 < w1.heap.size := by have := HSZ.out; omega
  go_wp2_with fail
  refine (rgetCons_any (S := S) (a := a) (HS.out.after HB1.out) ha _ rfl).mono ?_
  rintro e w2 ⟨q, rfl, hq, rfl⟩
  obtain ⟨w2, hw2⟩ : ∃ w2, w2 = w1 := ⟨_, rfl⟩
  have hb : Below w1.heap.size w1 w2 := by rw [hw2]; exact Below.refl _ _
  rw [← hw2]
  clear hw2
  have HQ := Lib.hid hq; clear hq
  have HB2 : Hid (Below w.heap.size w w2) := Lib.hid (Below.trans HB1.out (hb.mono (by have := HSZ.out; omega)))
  have HX2 := Lib.hid (goesBx.after HX1.out hb)
  have HY2 := Lib.hid (goesBx.after HY1.out hb)
  have hlx2 := HX2.out.lt
  have hly2 := HY2.out.lt
  clear hlx hly
  have HRE : Hid (rerr (readL 108 x (bs.drop a)) = rerr (getCons (bs.drop a))) := Lib.hid (by rw [rd_108]; exact err_bind)
  obtain ⟨er, her⟩ : ∃ er, rerr (getCons (bs.drop a)) = er := ⟨_, rfl⟩
  rw [her] at HRE ⊢
  clear her
  obtain ⟨v, hv⟩ : ∃ v, rval 0 (getCons (bs.drop a)) = v := ⟨_, rfl⟩
  rw [hv]
  have HV := Lib.hid hv; clear hv
  have kf := HX2.out.c 3 _ rfl
  have ff := HX2.out.fr 3
  go_upto_region 57 with fail
  clear kf ff
  have HX3 : Hid (Bx (fun b => b = w.heap.size) (w2.setCell ⟨w.heap.size, 3, none⟩ (.int .u16 ((v : Nat) : Int))) w.heap.size (rfV { x with level := v } t)) := Lib.hid (HX2.out.put 3 (.int .u16 ((v : Nat) : Int)) (by show 3 < 27; decide))
  have HY3 : Hid (Bx (fun b => b = w.heap.size + 1) (w2.setCell ⟨w.heap.size, 3, none⟩ (.int .u16 ((v : Nat) : Int))) (w.heap.size + 1) zeroRf) := Lib.hid (goesBx.keep HY2.out (by simp) fun b hb hl => Below.heap_setCell _ ⟨w.heap.size, 3, none⟩ _ b (by show b ≠ w.heap.size; omega))
  have HB3 : Hid (Below w.heap.size w (w2.setCell ⟨w.heap.size, 3, none⟩ (.int .u16 ((v : Nat) : Int)))) := Lib.hid (HB2.out.setCell (Nat.le_refl _) _)
  have HR3 : Hid (RfR (fun b => S2 b ∧ b < w.heap.size) (w2.setCell ⟨w.heap.size, 3, none⟩ (.int .u16 ((v : Nat) : Int))) { x with level := v } t) := Lib.hid (⟨(goesRf.after HR.out HB3.out).fa, (goesRf.after HR.out HB3.out).su, (goesRf.after HR.out HB3.out).cg⟩)
  go_wp2_with (first | (refine wpList_loadB HX3.out (by rfl) 54 _ (by rfl) (by rfl) _ Tryz.underlying54 rfl (by kernel_rfl) ?_) | (refine wpList_storeB HY3.out (by rfl) 54 _ _ (by rfl) 0 (rfV { x with level := v } t) (by rfl) (by rfl) (by kernel_rfl) (by show 0 + 27 ≤ 27; decide) (by rfl) ?_; intro w9 hb9 hg9; have HY9 := Lib.hid hb9; have HG9 := Lib.hid hg9; clear hb9 hg9))
  refine bodyPost_ret (results_box3 (vs := rfV { x with level := v } t) rfl HY9.out (by rfl) (by rfl) (by rfl) _ Tryz.underlying54 rfl (by kernel_rfl)) rfl ?_
  have hgz := HG9.out.size
  have HB9 : Below w.heap.size w w9 := Below.trans HB3.out (below_of_grown' HG9.out (by omega) HB3.out.size)
  refine ⟨{ x with level := v }, t, q, by rw [HRE.out]; rfl, goesRf.mono (goesRf.keep HR3.out HG9.out.size fun b hb hl => HG9.out.block b hl (fun e => by have := hb.2; injection e with e; omega)) (fun b hb _ => .inl hb.1), fun y rest h => ?_, by rw [rd_108]; exact at_bind HQ.out, HB9⟩
  rw [← HV.out]
  rw [rd_108] at h
  exact is_bind h

set_option maxHeartbeats 4000000 in
set_option maxRecDepth 100000 in
theorem rrd_r {S S2 : Nat → Prop} {A : Option Addr} {m c a : Nat} {bs : B} {x : Rf} {t : Tfs} {w : World} (hs : Sl S w A m c bs) (hm : m ≤ 140737488355328) (ha : a ≤ m) (hR : RfR S2 w x t) :
    Calls Tryz.prog 19 #[.agg (rfV x t).toArray, .int .u8 114, .slice A m c, .int .i64 (a : Int)] w fun e w' => RdP S2 w bs (readL 114 x (bs.drop a)) e w' := by
  have HR := Lib.hid (goesRf.mono (S' := fun b => S2 b ∧ b < w.heap.size) hR fun b h1 h2 => ⟨h1, h2⟩); clear hR
  have hcp := hs.cap
  have hcm := hs.capMax
  have hln := Lib.hid hs.len
  have HS := Lib.hid hs; clear hs
  obtain ⟨w1, hw1⟩ : ∃ w1, w1 = (w.alloc (.cells (rfV x t).toArray 54)).alloc (.cells #[.int .u8 0, .int .u32 0, .string ⟨#[]⟩, .int .u16 0, .int .i32 0, .int .i32 0, .int .i32 0, .int .u8 0, .string ⟨#[]⟩, .string ⟨#[]⟩, .string ⟨#[]⟩, .slice none 0 0, .string ⟨#[]⟩, .slice none 0 0, .int .i64 0, .string ⟨#[]⟩, .string ⟨#[]⟩, .string ⟨#[]⟩, .string ⟨#[]⟩, .int .u32 0, .string ⟨#[]⟩, .string ⟨#[]⟩, .string ⟨#[]⟩, .string ⟨#[]⟩, .slice none 0 0, .int .u32 0, .string ⟨#[]⟩] 54) := ⟨_, rfl⟩
  have b1 : Below w.heap.size w (w.alloc (.cells (rfV x t).toArray 54)) := (Below.refl _ _).alloc (Nat.le_refl _) _
  have hz0 : (w.alloc (.cells (rfV x t).toArray 54)).heap.size = w.heap.size + 1 := World.size_alloc _ _
  have hsz : w1.heap.size = w.heap.size + 1 + 1 := by rw [hw1]; simp
  have b2 : Below (w.alloc (.cells (rfV x t).toArray 54)).heap.size (w.alloc (.cells (rfV x t).toArray 54)) w1 := by rw [hw1]; exact (Below.refl _ _).alloc (Nat.le_refl _) _
  have HB1 : Hid (Below w.heap.size w w1) := Lib.hid (seqB b1 b2)
  have HX1 : Hid (Bx (fun b => b = w.heap.size) w1 w.heap.size (rfV x t)) := Lib.hid (Bx.after (Bx.alloc w (rfV x t).toArray 54 (S := fun b => b = w.heap.size) rfl rfl) b2)
  have HY1 : Hid (Bx (fun b => b = w.heap.size + 1) w1 (w.heap.size + 1) zeroRf) := Lib.hid (by rw [hw1]; exact Bx.alloc _ #[.int .u8 0, .int .u32 0, .string ⟨#[]⟩, .int .u16 0, .int .i32 0, .int .i32 0, .int .i32 0, .int .u8 0, .string ⟨#[]⟩, .string ⟨#[]⟩, .string ⟨#[]⟩, .slice none 0 0, .string ⟨#[]⟩, .slice none 0 0, .int .i64 0, .string ⟨#[]⟩, .string ⟨#[]⟩, .string ⟨#[]⟩, .string ⟨#[]⟩, .int .u32 0, .string ⟨#[]⟩, .string ⟨#[]⟩, .string ⟨#[]⟩, .string ⟨#[]⟩, .slice none 0 0, .int .u32 0, .string ⟨#[]⟩] 54 (X := w.heap.size + 1) (S := fun b => b = w.heap.size + 1) (by simp) (by simp))
  have HW := Lib.hid hw1; have HSZ := Lib.hid hsz
  clear hw1 b1 b2 hz0 hsz
  go_enter Tryz.func19, Tryz.ntmps19
  go_upto_region 1 with fail
  rw [show ((w.alloc (.cells (rfV x t).toArray 54)).alloc (.cells #[.int .u8 0, .int .u32 0, .string ⟨#[]⟩, .int .u16 0, .int .i32 0, .int .i32 0, .int .i32 0, .int .u8 0, .string ⟨#[]⟩, .string ⟨#[]⟩, .string ⟨#[]⟩, .slice none 0 0, .string ⟨#[]⟩, .slice none 0 0, .int .i64 0, .string ⟨#[]⟩, .string ⟨#[]⟩, .string ⟨#[]⟩, .string ⟨#[]⟩, .int .u32 0, .string ⟨#[]⟩, .string ⟨#[]⟩, .string ⟨#[]⟩, .string ⟨#[]⟩, .slice none 0 0, .int .u32 0, .string ⟨#[]⟩] 54)) = w1 from HW.out.symm]
  have hlx : w.heap.size < w1.heap.size := by have := HSZ.out; omega
  have hly : w.heap.size + 1 < w1.heap.size := by have := HSZ.out; omega
  go_wp2_with fail
  refine (rnumber9_any (S := S) (a := a) (HS.out.after HB1.out) ha _ rfl).mono ?_
  rintro e w2 ⟨q, rfl, hq, hb⟩
  have HQ := Lib.hid hq; clear hq
  have HB2 : Hid (Below w.heap.size w w2) := Lib.hid (Below.trans HB1.out (hb.mono (by have := HSZ.out; omega)))
  have HX2 := Lib.hid (goesBx.after HX1.out hb)
  have HY2 := Lib.hid (goesBx.after HY1.out hb)
  have hlx2 := HX2.out.lt
  have hly2 := HY2.out.lt
  clear hlx hly
  have HRE : Hid (rerr (readL 114 x (bs.drop a)) = rerr (getNum (bs.drop a))) := Lib.hid (by rw [rd_114]; exact err_bind)
  obtain ⟨er, her⟩ : ∃ er, rerr (getNum (bs.drop a)) = er := ⟨_, rfl⟩
  rw [her] at HRE ⊢
  clear her
  obtain ⟨v, hv⟩ : ∃ v, rval 0 (getNum (bs.drop a)) = v := ⟨_, rfl⟩
  rw [hv]
  have HV := Lib.hid hv; clear hv
  have kf := HX2.out.c 4 _ rfl
  have ff := HX2.out.fr 4
  go_upto_region 57 with fail
  clear kf ff
  have HX3 : Hid (Bx (fun b => b = w.heap.size) (w2.setCell ⟨w.heap.size, 4, none⟩ (.int .i32 (v))) w.heap.size (rfV { x with received := v } t)) := Lib.hid (HX2.out.put 4 (.int .i32 (v)) (by show 4 < 27; decide))
  have HY3 : Hid (Bx (fun b => b = w.heap.size + 1) (w2.setCell ⟨w.heap.size, 4, none⟩ (.int .i32 (v))) (w.heap.size + 1) zeroRf) := Lib.hid (goesBx.keep HY2.out (by simp) fun b hb hl => Below.heap_setCell _ ⟨w.heap.size, 4, none⟩ _ b (by show b ≠ w.heap.size; omega))
  have HB3 : Hid (Below w.heap.size w (w2.setCell ⟨w.heap.size, 4, none⟩ (.int .i32 (v)))) := Lib.hid (HB2.out.setCell (Nat.le_refl _) _)
  have HR3 : Hid (RfR (fun b => S2 b ∧ b < w.heap.size) (w2.setCell ⟨w.heap.size, 4, none⟩ (.int .i32 (v))) { x with received := v } t) := Lib.hid (⟨(goesRf.after HR.out HB3.out).fa, (goesRf.after HR.out HB3.out).su, (goesRf.after HR.out HB3.out).cg⟩)
  go_wp2_with (first | (refine wpList_loadB HX3.out (by rfl) 54 _ (by rfl) (by rfl) _ Tryz.underlying54 rfl (by kernel_rfl) ?_) | (refine wpList_storeB HY3.out (by rfl) 54 _ _ (by rfl) 0 (rfV { x with received := v } t) (by rfl) (by rfl) (by kernel_rfl) (by show 0 + 27 ≤ 27; decide) (by rfl) ?_; intro w9 hb9 hg9; have HY9 := Lib.hid hb9; have HG9 := Lib.hid hg9; clear hb9 hg9))
  refine bodyPost_ret (results_box3 (vs := rfV { x with received := v } t) rfl HY9.out (by rfl) (by rfl) (by rfl) _ Tryz.underlying54 rfl (by kernel_rfl)) rfl ?_
  have hgz := HG9.out.size
  have HB9 : Below w.heap.size w w9 := Below.trans HB3.out (below_of_grown' HG9.out (by omega) HB3.out.size)
  refine ⟨{ x with received := v }, t, q, by rw [HRE.out]; rfl, goesRf.mono (goesRf.keep HR3.out HG9.out.size fun b hb hl => HG9.out.block b hl (fun e => by have := hb.2; injection e with e; omega)) (fun b hb _ => .inl hb.1), fun y rest h => ?_, by rw [rd_114]; exact at_bind HQ.out, HB9⟩
  rw [← HV.out]
  rw [rd_114] at h
  exact is_bind h

set_option maxHeartbeats 4000000 in
set_option maxRecDepth 100000 in
theorem rrd_n {S S2 : Nat → Prop} {A : Option Addr} {m c a : Nat} {bs : B} {x : Rf} {t : Tfs} {w : World} (hs : Sl S w A m c bs) (hm : m ≤ 140737488355328) (ha : a ≤ m) (hR : RfR S2 w x t) :
    Calls Tryz.prog 19 #[.agg (rfV x t).toArray, .int .u8 110, .slice A m c, .int .i64 (a : Int)] w fun e w' => RdP S2 w bs (readL 110 x (bs.drop a)) e w' := by
  have HR := Lib.hid (goesRf.mono (S' := fun b => S2 b ∧ b < w.heap.size) hR fun b h1 h2 => ⟨h1, h2⟩); clear hR
  have hcp := hs.cap
  have hcm := hs.capMax
  have hln := Lib.hid hs.len
  have HS := Lib.hid hs; clear hs
  obtain ⟨w1, hw1⟩ : ∃ w1, w1 = (w.alloc (.cells (rfV x t).toArray 54)).alloc (.cells #[.int .u8 0, .int .u32 0, .string ⟨#[]⟩, .int .u16 0, .int .i32 0, .int .i32 0, .int .i32 0, .int .u8 0, .string ⟨#[]⟩, .string ⟨#[]⟩, .string ⟨#[]⟩, .slice none 0 0, .string ⟨#[]⟩, .slice none 0 0, .int .i64 0, .string ⟨#[]⟩, .string ⟨#[]⟩, .string ⟨#[]⟩, .string ⟨#[]⟩, .int .u32 0, .string ⟨#[]⟩, .string ⟨#[]⟩, .string ⟨#[]⟩, .string ⟨#[]⟩, .slice none 0 0, .int .u32 0, .string ⟨#[]⟩] 54) := ⟨_, rfl⟩
  have b1 : Below w.heap.size w (w.alloc (.cells (rfV x t).toArray 54)) := (Below.refl _ _).alloc (Nat.le_refl _) _
  have hz0 : (w.alloc (.cells (rfV x t).toArray 54)).heap.size = w.heap.size + 1 := World.size_alloc _ _
  have hsz : w1.heap.size = w.heap.size + 1 + 1 := by rw [hw1]; simp
  have b2 : Below (w.alloc (.cells (rfV x t).toArray 54)).heap.size (w.alloc (.cells (rfV x t).toArray 54)) w1 := by rw [hw1]; exact (Below.refl _ _).alloc (Nat.le_refl _) _
  have HB1 : Hid (Below w.heap.size w w1) := Lib.hid (seqB b1 b2)
  have HX1 : Hid (Bx (fun b => b = w.heap.size) w1 w.heap.size (rfV x t)) := Lib.hid (Bx.after (Bx.alloc w (rfV x t).toArray 54 (S := fun b => b = w.heap.size) rfl rfl) b2)
  have HY1 : Hid (Bx (fun b => b = w.heap.size + 1) w1 (w.heap.size + 1) zeroRf) := Lib.hid (by rw [hw1]; exact Bx.alloc _ #[.int .u8 0, .int .u32 0, .string ⟨#[]⟩, .int .u16 0, .int .i32 0, .int .i32 0, .int .i32 0, .int .u8 0, .string ⟨#[]⟩, .string ⟨#[]⟩, .string ⟨#[]⟩, .slice none 0 0, .string ⟨#[]⟩, .slice none 0 0, .int .i64 0, .string ⟨#[]⟩, .string ⟨#[]⟩, .string ⟨#[]⟩, .string ⟨#[]⟩, .int .u32 0, .string ⟨#[]⟩, .string ⟨#[]⟩, .string ⟨#[]⟩, .string ⟨#[]⟩, .slice none 0 0, .int .u32 0, .string ⟨#[]⟩] 54 (X := w.heap.size + 1) (S := fun b => b = w.heap.size + 1) (by simp) (by simp))
  have HW := Lib.hid hw1; have HSZ := Lib.hid hsz
  clear hw1 b1 b2 hz0 hsz
  go_enter Tryz.func19, Tryz.ntmps19
  go_upto_region 1 with fail
  rw [show ((w.alloc (.cells (rfV x t).toArray 54)).alloc (.cells #[.int .u8 0, .int .u32 0, .string ⟨#[]⟩, .int .u16 0, .int .i32 0, .int .i32 0, .int .i32 0, .int .u8 0, .string ⟨#[]⟩, .string ⟨#[]⟩, .string ⟨#[]⟩, .slice none 0 0, .string ⟨#[]⟩, .slice none 0 0, .int .i64 0, .string ⟨#[]⟩, .string ⟨#[]⟩, .string ⟨#[]⟩, .string ⟨#[]⟩, .int .u32 0, .string ⟨#[]⟩, .string ⟨#[]⟩, .string ⟨#[]⟩, .string ⟨#[]⟩, .slice none 0 0, .int .u32 0, .string ⟨#[]⟩] 54)) = w1 from HW.out.symm]
  have hlx : w.heap.size < w1.heap.size := by have := HSZ.out; omega
  have hly : w.heap.size + 1 < w1.heap.size := by have := HSZ.out; omega
  go_wp2_with fail
  refine (rnumber9_any (S := S) (a := a) (HS.out.after HB1.out) ha _ rfl).mono ?_
  rintro e w2 ⟨q, rfl, hq, hb⟩
  have HQ := Lib.hid hq; clear hq
  have HB2 : Hid (Below w.heap.size w w2) := Lib.hid (Below.trans HB1.out (hb.mono (by have := HSZ.out; omega)))
  have HX2 := Lib.hid (goesBx.after HX1.out hb)
  have HY2 := Lib.hid (goesBx.after HY1.out hb)
  have hlx2 := HX2.out.lt
  have hly2 := HY2.out.lt
  clear hlx hly
  have HRE : Hid (rerr (readL 110 x (bs.drop a)) = rerr (getNum (bs.drop a))) := Lib.hid (by rw [rd_110]; exact err_bind)
  obtain ⟨er, her⟩ : ∃ er, rerr (getNum (bs.drop a)) = er := ⟨_, rfl⟩
  rw [her] at HRE ⊢
  clear her
  obtain ⟨v, hv⟩ : ∃ v, rval 0 (getNum (bs.drop a)) = v := ⟨_, rfl⟩
  rw [hv]
  have HV := Lib.hid hv; clear hv
  have kf := HX2.out.c 5 _ rfl
  have ff := HX2.out.fr 5
  go_upto_region 57 with fail
  clear kf ff
  have HX3 : Hid (Bx (fun b => b = w.heap.size) (w2.setCell ⟨w.heap.size, 5, none⟩ (.int .i32 (v))) w.heap.size (rfV { x with needed := v } t)) := Lib.hid (HX2.out.put 5 (.int .i32 (v)) (by show 5 < 27; decide))
  have HY3 : Hid (Bx (fun b => b = w.heap.size + 1) (w2.setCell ⟨w.heap.size, 5, none⟩ (.int .i32 (v))) (w.heap.size + 1) zeroRf) := Lib.hid (goesBx.keep HY2.out (by simp) fun b hb hl => Below.heap_setCell _ ⟨w.heap.size, 5, none⟩ _ b (by show b ≠ w.heap.size; omega))
  have HB3 : Hid (Below w.heap.size w (w2.setCell ⟨w.heap.size, 5, none⟩ (.int .i32 (v)))) := Lib.hid (HB2.out.setCell (Nat.le_refl _) _)
  have HR3 : Hid (RfR (fun b => S2 b ∧ b < w.heap.size) (w2.setCell ⟨w.heap.size, 5, none⟩ (.int .i32 (v))) { x with needed := v } t) := Lib.hid (⟨(goesRf.after HR.out HB3.out).fa, (goesRf.after HR.out HB3.out).su, (goesRf.after HR.out HB3.out).cg⟩)
  go_wp2_with (first | (refine wpList_loadB HX3.out (by rfl) 54 _ (by rfl) (by rfl) _ Tryz.underlying54 rfl (by kernel_rfl) ?_) | (refine wpList_storeB HY3.out (by rfl) 54 _ _ (by rfl) 0 (rfV { x with needed := v } t) (by rfl) (by rfl) (by kernel_rfl) (by show 0 + 27 ≤ 27; decide) (by rfl) ?_; intro w9 hb9 hg9; have HY9 := Lib.hid hb9; have HG9 := Lib.hid hg9; clear hb9 hg9))
  refine bodyPost_ret (results_box3 (vs := rfV { x with needed := v } t) rfl HY9.out (by rfl) (by rfl) (by rfl) _ Tryz.underlying54 rfl (by kernel_rfl)) rfl ?_
  have hgz := HG9.out.size
  have HB9 : Below w.heap.size w w9 := Below.trans HB3.out (below_of_grown' HG9.out (by omega) HB3.out.size)
  refine ⟨{ x with needed := v }, t, q, by rw [HRE.out]; rfl, goesRf.mono (goesRf.keep HR3.out HG9.out.size fun b hb hl => HG9.out.block b hl (fun e => by have := hb.2; injection e with e; omega)) (fun b hb _ => .inl hb.1), fun y rest h => ?_, by rw [rd_110]; exact at_bind HQ.out, HB9⟩
  rw [← HV.out]
  rw [rd_110] at h
  exact is_bind h

set_option maxHeartbeats 4000000 in
set_option maxRecDepth 100000 in
theorem rrd_f {S S2 : Nat → Prop} {A : Option Addr} {m c a : Nat} {bs : B} {x : Rf} {t : Tfs} {w : World} (hs : Sl S w A m c bs) (hm : m ≤ 140737488355328) (ha : a ≤ m) (hR : RfR S2 w x t) :
    Calls Tryz.prog 19 #[.agg (rfV x t).toArray, .int .u8 102, .slice A m c, .int .i64 (a : Int)] w fun e w' => RdP S2 w bs (readL 102 x (bs.drop a)) e w' := by
  have HR := Lib.hid (goesRf.mono (S' := fun b => S2 b ∧ b < w.heap.size) hR fun b h1 h2 => ⟨h1, h2⟩); clear hR
  have hcp := hs.cap
  have hcm := hs.capMax
  have hln := Lib.hid hs.len
  have HS := Lib.hid hs; clear hs
  obtain ⟨w1, hw1⟩ : ∃ w1, w1 = (w.alloc (.cells (rfV x t).toArray 54)).alloc (.cells #[.int .u8 0, .int .u32 0, .string ⟨#[]⟩, .int .u16 0, .int .i32 0, .int .i32 0, .int .i32 0, .int .u8 0, .string ⟨#[]⟩, .string ⟨#[]⟩, .string ⟨#[]⟩, .slice none 0 0, .string ⟨#[]⟩, .slice none 0 0, .int .i64 0, .string ⟨#[]⟩, .string ⟨#[]⟩, .string ⟨#[]⟩, .string ⟨#[]⟩, .int .u32 0, .string ⟨#[]⟩, .string ⟨#[]⟩, .string ⟨#[]⟩, .string ⟨#[]⟩, .slice none 0 0, .int .u32 0, .string ⟨#[]⟩] 54) := ⟨_, rfl⟩
  have b1 : Below w.heap.size w (w.alloc (.cells (rfV x t).toArray 54)) := (Below.refl _ _).alloc (Nat.le_refl _) _
  have hz0 : (w.alloc (.cells (rfV x t).toArray 54)).heap.size = w.heap.size + 1 := World.size_alloc _ _
  have hsz : w1.heap.size = w.heap.size + 1 + 1 := by rw [hw1]; simp
  have b2 : Below (w.alloc (.cells (rfV x t).toArray 54)).heap.size (w.alloc (.cells (rfV x t).toArray 54)) w1 := by rw [hw1]; exact (Below.refl _ _).alloc (Nat.le_refl _) _
  have HB1 : Hid (Below w.heap.size w w1) := Lib.hid (seqB b1 b2)
  have HX1 : Hid (Bx (fun b => b = w.heap.size) w1 w.heap.size (rfV x t)) := Lib.hid (Bx.after (Bx.alloc w (rfV x t).toArray 54 (S := fun b => b = w.heap.size) rfl rfl) b2)
  have HY1 : Hid (Bx (fun b => b = w.heap.size + 1) w1 (w.heap.size + 1) zeroRf) := Lib.hid (by rw [hw1]; exact Bx.alloc _ #[.int .u8 0, .int .u32 0, .string ⟨#[]⟩, .int .u16 0, .int .i32 0, .int .i32 0, .int .i32 0, .int .u8 0, .string ⟨#[]⟩, .string ⟨#[]⟩, .string ⟨#[]⟩, .slice none 0 0, .string ⟨#[]⟩, .slice none 0 0, .int .i64 0, .string ⟨#[]⟩, .string ⟨#[]⟩, .string ⟨#[]⟩, .string ⟨#[]⟩, .int .u32 0, .string ⟨#[]⟩, .string ⟨#[]⟩, .string ⟨#[]⟩, .string ⟨#[]⟩, .slice none 0 0, .int .u32 0, .string ⟨#[]⟩] 54 (X := w.heap.size + 1) (S := fun b => b = w.heap.size + 1) (by simp) (by simp))
  have HW := Lib.hid hw1; have HSZ := Lib.hid hsz
  clear hw1 b1 b2 hz0 hsz
  go_enter Tryz.func19, Tryz.ntmps19
  go_upto_region 1 with fail
  rw [show ((w.alloc (.cells (rfV x t).toArray 54)).alloc (.cells #[.int .u8 0, .int .u32 0, .string ⟨#[]⟩, .int .u16 0, .int .i32 0, .int .i32 0, .int .i32 0, .int .u8 0, .string ⟨#[]⟩, .string ⟨#[]⟩, .string ⟨#[]⟩, .slice none 0 0, .string ⟨#[]⟩, .slice none 0 0, .int .i64 0, .string ⟨#[]⟩, .string ⟨#[]⟩, .string ⟨#[]⟩, .string ⟨#[]⟩, .int .u32 0, .string ⟨#[]⟩, .string ⟨#[]⟩, .string ⟨#[]⟩, .string ⟨#[]⟩, .slice none 0 0, .int .u32 0, .string ⟨#[]⟩] 54)) = w1 from HW.out.symm]
  have hlx : w.heap.size < w1.heap.size := by have := HSZ.out; omega
  have hly : w.heap.size + 1 < w1.heap.size := by have := HSZ.out; omega
  go_wp2_with fail
  refine (rnumber9_any (S := S) (a := a) (HS.out.after HB1.out) ha _ rfl).mono ?_
  rintro e w2 ⟨q, rfl, hq, hb⟩
  have HQ := Lib.hid hq; clear hq
  have HB2 : Hid (Below w.heap.size w w2) := Lib.hid (Below.trans HB1.out (hb.mono (by have := HSZ.out; omega)))
  have HX2 := Lib.hid (goesBx.after HX1.out hb)
  have HY2 := Lib.hid (goesBx.after HY1.out hb)
  have hlx2 := HX2.out.lt
  have hly2 := HY2.out.lt
  clear hlx hly
  have HRE : Hid (rerr (readL 102 x (bs.drop a)) = rerr (getNum (bs.drop a))) := Lib.hid (by rw [rd_102]; exact err_bind)
  obtain ⟨er, her⟩ : ∃ er, rerr (getNum (bs.drop a)) = er := ⟨_, rfl⟩
  rw [her] at HRE ⊢
  clear her
  obtain ⟨v, hv⟩ : ∃ v, rval 0 (getNum (bs.drop a)) = v := ⟨_, rfl⟩
  rw [hv]
  have HV := Lib.hid hv; clear hv
  have kf := HX2.out.c 6 _ rfl
  have ff := HX2.out.fr 6
  go_upto_region 57 with fail
  clear kf ff
  have HX3 : Hid (Bx (fun b => b = w.heap.size) (w2.setCell ⟨w.heap.size, 6, none⟩ (.int .i32 (v))) w.heap.size (rfV { x with failures := v } t)) := Lib.hid (HX2.out.put 6 (.int .i32 (v)) (by show 6 < 27; decide))
  have HY3 : Hid (Bx (fun b => b = w.heap.size + 1) (w2.setCell ⟨w.heap.size, 6, none⟩ (.int .i32 (v))) (w.heap.size + 1) zeroRf) := Lib.hid (goesBx.keep HY2.out (by simp) fun b hb hl => Below.heap_setCell _ ⟨w.heap.size, 6, none⟩ _ b (by show b ≠ w.heap.size; omega))
  have HB3 : Hid (Below w.heap.size w (w2.setCell ⟨w.heap.size, 6, none⟩ (.int .i32 (v)))) := Lib.hid (HB2.out.setCell (Nat.le_refl _) _)
  have HR3 : Hid (RfR (fun b => S2 b ∧ b < w.heap.size) (w2.setCell ⟨w.heap.size, 6, none⟩ (.int .i32 (v))) { x with failures := v } t) := Lib.hid (⟨(goesRf.after HR.out HB3.out).fa, (goesRf.after HR.out HB3.out).su, (goesRf.after HR.out HB3.out).cg⟩)
  go_wp2_with (first | (refine wpList_loadB HX3.out (by rfl) 54 _ (by rfl) (by rfl) _ Tryz.underlying54 rfl (by kernel_rfl) ?_) | (refine wpList_storeB HY3.out (by rfl) 54 _ _ (by rfl) 0 (rfV { x with failures := v } t) (by rfl) (by rfl) (by kernel_rfl) (by show 0 + 27 ≤ 27; decide) (by rfl) ?_; intro w9 hb9 hg9; have HY9 := Lib.hid hb9; have HG9 := Lib.hid hg9; clear hb9 hg9))
  refine bodyPost_ret (results_box3 (vs := rfV { x with failures := v } t) rfl HY9.out (by rfl) (by rfl) (by rfl) _ Tryz.underlying54 rfl (by kernel_rfl)) rfl ?_
  have hgz := HG9.out.size
  have HB9 : Below w.heap.size w w9 := Below.trans HB3.out (below_of_grown' HG9.out (by omega) HB3.out.size)
  refine ⟨{ x with failures := v }, t, q, by rw [HRE.out]; rfl, goesRf.mono (goesRf.keep HR3.out HG9.out.size fun b hb hl => HG9.out.block b hl (fun e => by have := hb.2; injection e with e; omega)) (fun b hb _ => .inl hb.1), fun y rest h => ?_, by rw [rd_102]; exact at_bind HQ.out, HB9⟩
  rw [← HV.out]
  rw [rd_102] at h
  exact is_bind h

set_option maxHeartbeats 4000000 in
set_option maxRecDepth 100000 in
theorem rrd_d {S S2 : Nat → Prop} {A : Option Addr} {m c a : Nat} {bs : B} {x : Rf} {t : Tfs} {w : World} (hs : Sl S w A m c bs) (hm : m ≤ 140737488355328) (ha : a ≤ m) (hR : RfR S2 w x t) :
    Calls Tryz.prog 19 #[.agg (rfV x t).toArray, .int .u8 100, .slice A m c, .int .i64 (a : Int)] w fun e w' => RdP S2 w bs (readL 100 x (bs.drop a)) e w' := by
  have HR := Lib.hid (goesRf.mono (S' := fun b => S2 b ∧ b < w.heap.size) hR fun b h1 h2 => ⟨h1, h2⟩); clear hR
  have hcp := hs.cap
  have hcm := hs.capMax
  have hln := Lib.hid hs.len
  have HS := Lib.hid hs; clear hs
  obtain ⟨w1, hw1⟩ : ∃ w1, w1 = (w.alloc (.cells (rfV x t).toArray 54)).alloc (.cells #[.int .u8 0, .int .u32 0, .string ⟨#[]⟩, .int .u16 0, .int .i32 0, .int .i32 0, .int .i32 0, .int .u8 0, .string ⟨#[]⟩, .string ⟨#[]⟩, .string ⟨#[]⟩, .slice none 0 0, .string ⟨#[]⟩, .slice none 0 0, .int .i64 0, .string ⟨#[]⟩, .string ⟨#[]⟩, .string ⟨#[]⟩, .string ⟨#[]⟩, .int .u32 0, .string ⟨#[]⟩, .string ⟨#[]⟩, .string ⟨#[]⟩, .string ⟨#[]⟩, .slice none 0 0, .int .u32 0, .string ⟨#[]⟩] 54) := ⟨_, rfl⟩
  have b1 : Below w.heap.size w (w.alloc (.cells (rfV x t).toArray 54)) := (Below.refl _ _).alloc (Nat.le_refl _) _
  have hz0 : (w.alloc (.cells (rfV x t).toArray 54)).heap.size = w.heap.size + 1 := World.size_alloc _ _
  have hsz : w1.heap.size = w.heap.size + 1 + 1 := by rw [hw1]; simp
  have b2 : Below (w.alloc (.cells (rfV x t).toArray 54)).heap.size (w.alloc (.cells (rfV x t).toArray 54)) w1 := by rw [hw1]; exact (Below.refl _ _).alloc (Nat.le_refl _) _
  have HB1 : Hid (Below w.heap.size w w1) := Lib.hid (seqB b1 b2)
  have HX1 : Hid (Bx (fun b => b = w.heap.size) w1 w.heap.size (rfV x t)) := Lib.hid (Bx.after (Bx.alloc w (rfV x t).toArray 54 (S := fun b => b = w.heap.size) rfl rfl) b2)
  have HY1 : Hid (Bx (fun b => b = w.heap.size + 1) w1 (w.heap.size + 1) zeroRf) := Lib.hid (by rw [hw1]; exact Bx.alloc _ #[.int .u8 0, .int .u32 0, .string ⟨#[]⟩, .int .u16 0, .int .i32 0, .int .i32 0, .int .i32 0, .int .u8 0, .string ⟨#[]⟩, .string ⟨#[]⟩, .string ⟨#[]⟩, .slice none 0 0, .string ⟨#[]⟩, .slice none 0 0, .int .i64 0, .string ⟨#[]⟩, .string ⟨#[]⟩, .string ⟨#[]⟩, .string ⟨#[]⟩, .int .u32 0, .string ⟨#[]⟩, .string ⟨#[]⟩, .string ⟨#[]⟩, .string ⟨#[]⟩, .slice none 0 0, .int .u32 0, .string ⟨#[]⟩] 54 (X := w.heap.size + 1) (S := fun b => b = w.heap.size + 1) (by simp) (by simp))
  have HW := Lib.hid hw1; have HSZ := Lib.hid hsz
  clear hw1 b1 b2 hz0 hsz
  go_enter Tryz.func19, Tryz.ntmps19
  go_upto_region 1 with fail
  rw [show ((w.alloc (.cells (rfV x t).toArray 54)).alloc (.cells #[.int .u8 0, .int .u32 0, .string ⟨#[]⟩, .int .u16 0, .int .i32 0, .int .i32 0, .int .i32 0, .int .u8 0, .string ⟨#[]⟩, .string ⟨#[]⟩, .string ⟨#[]⟩, .slice none 0 0, .string ⟨#[]⟩, .slice none 0 0, .int .i64 0, .string ⟨#[]⟩, .string ⟨#[]⟩, .string ⟨#[]⟩, .string ⟨#[]⟩, .int .u32 0, .string ⟨#[]⟩, .string ⟨#[]⟩, .string ⟨#[]⟩, .string ⟨#[]⟩, .slice none 0 0, .int .u32 0, .string ⟨#[]⟩] 54)) = w1 from HW.out.symm]
  have hlx : w.heap.size < w1.heap.size := by have := HSZ.out; omega
  have hly : w.heap.size + 1 < w1.heap.size := by have := HSZ.out; omega
  go_wp2_with fail
  refine (rget_any (S := S) (n := 1) (a := a) (HS.out.after HB1.out) ha (by decide) (by decide) _ rfl).mono ?_
  rintro e w2 ⟨q, rfl, hq, rfl⟩
  obtain ⟨w2, hw2⟩ : ∃ w2, w2 = w1 := ⟨_, rfl⟩
  have hb : Below w1.heap.size w1 w2 := by rw [hw2]; exact Below.refl _ _
  rw [← hw2]
  clear hw2
  have HQ := Lib.hid hq; clear hq
  have HB2 : Hid (Below w.heap.size w w2) := Lib.hid (Below.trans HB1.out (hb.mono (by have := HSZ.out; omega)))
  have HX2 := Lib.hid (goesBx.after HX1.out hb)
  have HY2 := Lib.hid (goesBx.after HY1.out hb)
  have hlx2 := HX2.out.lt
  have hly2 := HY2.out.lt
  clear hlx hly
  have HRE : Hid (rerr (readL 100 x (bs.drop a)) = rerr (getN 1 (bs.drop a))) := Lib.hid (by rw [rd_100]; exact err_bind)
  obtain ⟨er, her⟩ : ∃ er, rerr (getN 1 (bs.drop a)) = er := ⟨_, rfl⟩
  rw [her] at HRE ⊢
  clear her
  obtain ⟨v, hv⟩ : ∃ v, rval 0 (getN 1 (bs.drop a)) = v := ⟨_, rfl⟩
  rw [hv]
  have hvl : v < 256 := by rw [← hv]; exact rvN (n := 1)
  have HV := Lib.hid hv; clear hv
  have kf := HX2.out.c 7 _ rfl
  have ff := HX2.out.fr 7
  go_upto_region 57 with fail
  clear kf ff
  have HX3 : Hid (Bx (fun b => b = w.heap.size) (w2.setCell ⟨w.heap.size, 7, none⟩ (.int .u8 ((v : Nat) : Int))) w.heap.size (rfV { x with data := v } t)) := Lib.hid (HX2.out.put 7 (.int .u8 ((v : Nat) : Int)) (by show 7 < 27; decide))
  have HY3 : Hid (Bx (fun b => b = w.heap.size + 1) (w2.setCell ⟨w.heap.size, 7, none⟩ (.int .u8 ((v : Nat) : Int))) (w.heap.size + 1) zeroRf) := Lib.hid (goesBx.keep HY2.out (by simp) fun b hb hl => Below.heap_setCell _ ⟨w.heap.size, 7, none⟩ _ b (by show b ≠ w.heap.size; omega))
  have HB3 : Hid (Below w.heap.size w (w2.setCell ⟨w.heap.size, 7, none⟩ (.int .u8 ((v : Nat) : Int)))) := Lib.hid (HB2.out.setCell (Nat.le_refl _) _)
  have HR3 : Hid (RfR (fun b => S2 b ∧ b < w.heap.size) (w2.setCell ⟨w.heap.size, 7, none⟩ (.int .u8 ((v : Nat) : Int))) { x with data := v } t) := Lib.hid (⟨(goesRf.after HR.out HB3.out).fa, (goesRf.after HR.out HB3.out).su, (goesRf.after HR.out HB3.out).cg⟩)
  go_wp2_with (first | (refine wpList_loadB HX3.out (by rfl) 54 _ (by rfl) (by rfl) _ Tryz.underlying54 rfl (by kernel_rfl) ?_) | (refine wpList_storeB HY3.out (by rfl) 54 _ _ (by rfl) 0 (rfV { x with data := v } t) (by rfl) (by rfl) (by kernel_rfl) (by show 0 + 27 ≤ 27; decide) (by rfl) ?_; intro w9 hb9 hg9; have HY9 := Lib.hid hb9; have HG9 := Lib.hid hg9; clear hb9 hg9))
  refine bodyPost_ret (results_box3 (vs := rfV { x with data := v } t) rfl HY9.out (by rfl) (by rfl) (by rfl) _ Tryz.underlying54 rfl (by kernel_rfl)) rfl ?_
  have hgz := HG9.out.size
  have HB9 : Below w.heap.size w w9 := Below.trans HB3.out (below_of_grown' HG9.out (by omega) HB3.out.size)
  refine ⟨{ x with data := v }, t, q, by rw [HRE.out]; rfl, goesRf.mono (goesRf.keep HR3.out HG9.out.size fun b hb hl => HG9.out.block b hl (fun e => by have := hb.2; injection e with e; omega)) (fun b hb _ => .inl hb.1), fun y rest h => ?_, by rw [rd_100]; exact at_bind HQ.out, HB9⟩
  rw [← HV.out]
  rw [rd_100] at h
  exact is_bind h
end Go.Proofs.Sb
