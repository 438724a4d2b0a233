/- A walk over reply.Get. Conditions: the body's length up to 2^47. (written by gen_stm.py) -/
import Derived.Test.YtfeeeighafflnaaStl
import Derived.Test.YtfeeeighafflnaaReg
set_option linter.unusedVariables false
set_option linter.unusedSimpArgs false
namespace Sb
def rpOf : Except Int Rp → Rp | .ok x => x | .error _ => Rp.none
def erP : Except Int Rp → Int | .ok _ => 0 | .error e => e
theorem gp_err {op : Nat} {b : B} {e : Int} (h : gR (partsRp op) (.ok b) = .error e) : getRp op b = .error e := by
  unfold getRp
  cases hp : partsRp op b with
  | error e2 => rw [gR_err hp] at h; injection h with h; rw [h]
  | ok p => rw [gR_ok hp] at h; cases h
theorem gp_ok {op : Nat} {b cur : B} {x : Rp} (h : gR (partsRp op) (.ok b) = .ok cur) (hc : cur.length = 0) (ht : Tie (partsRp op) (.ok b) x) : getRp op b = .ok x := by
  unfold getRp
  cases hp : partsRp op b with
  | error e2 => rw [gR_err hp] at h; cases h
  | ok p =>
    obtain ⟨y, r⟩ := p
    rw [gR_ok hp] at h
    injection h with h
    have := ht b y r rfl hp
    simp only at h ⊢
    rw [h, if_pos hc, this]
theorem gp_rest {op : Nat} {b cur : B} (h : gR (partsRp op) (.ok b) = .ok cur) (hc : ¬ cur.length = 0) : getRp op b = .error 23 := by
  unfold getRp
  cases hp : partsRp op b with
  | error e2 => rw [gR_err hp] at h; cases h
  | ok p =>
    obtain ⟨y, r⟩ := p
    rw [gR_ok hp] at h
    injection h with h
    simp only at h ⊢
    rw [h, if_neg hc]
end Sb
namespace Go.Proofs.Sb
open Go.RowKit _root_.Sb
theorem gcP {w w' : World} {X : Nat} (hg : w.grownBy w' (some X)) {b o : Nat} {v : Value} (hb : b ≠ X) (hc : w.cell? ⟨b, o, none⟩ = some v) : w'.cell? ⟨b, o, none⟩ = some v :=
  (World.cell?_of_block (hg.block b (World.block_lt_of_cell? w ⟨b, o, none⟩ hc) fun e => hb (by injection e))).trans hc
theorem below_growP {N : Nat} {w w2 w9 : World} {X : Nat} (h : Below N w w2) (g : w2.grownBy w9 (some X)) (hX : N ≤ X) (hz : N ≤ w2.heap.size) : Below N w w9 := Below.trans h ⟨g.os, g.tape, g.output, g.size, fun b hb => g.block b (by omega) (fun e => by injection e with e; omega)⟩
def zeroRp : List Value := [.int .u8 0, .int .u32 0, .string ⟨#[]⟩, .int .u16 0, .int .i32 0, .int .i32 0, .int .i32 0, .int .u8 0, .string ⟨#[]⟩, .string ⟨#[]⟩, .string ⟨#[]⟩, .slice none 0 0, .slice none 0 0, .string ⟨#[]⟩, .slice none 0 0, .int .i64 0, .slice none 0 0, .string ⟨#[]⟩, .string ⟨#[]⟩, .slice none 0 0, .int .u32 0, .string ⟨#[]⟩, .string ⟨#[]⟩, .string ⟨#[]⟩, .string ⟨#[]⟩, .slice none 0 0, .int .u32 0, .string ⟨#[]⟩, .string ⟨#[]⟩, .string ⟨#[]⟩, .string ⟨#[]⟩, .slice none 0 0, .slice none 0 0, .slice none 0 0]
set_option maxHeartbeats 16000000 in
set_option maxRecDepth 100000 in
theorem rGet9_any {S : Nat → Prop} {w : World} {op : Nat} {A : Option Addr} {n c : Nat} {bs : B} (hs : Sl S w A n c bs) (hn : n ≤ 140737488355328) (r : Except Int Rp) (hr : getRp op bs = r) :
    Calls Try.prog 9 #[.int .u8 (op : Int), .slice A n c] w fun e w' => ∃ t, e = .returned (.tuple #[.agg (rpT (rpOf r) t).toArray, .int .i64 (erP r)]) ∧ RpR (fun b => w.heap.size ≤ b) w' (rpOf r) t ∧ Below w.heap.size w w' := by
  have HS := Lib.hid hs; clear hs
  have HR := Lib.hid hr; clear hr
  go_enter Try.func9, Try.ntmps9
  go_wp2_with (first | (refine wpList_built (by rfl) 39 _ (by rfl) #[.int .u8 (op : Int), .int .u32 0, .string ⟨#[]⟩, .int .u16 0, .int .i32 0, .int .i32 0, .int .i32 0, .int .u8 0, .string ⟨#[]⟩, .string ⟨#[]⟩, .string ⟨#[]⟩, .slice none 0 0, .slice none 0 0, .string ⟨#[]⟩, .slice none 0 0, .int .i64 0, .slice none 0 0, .string ⟨#[]⟩, .string ⟨#[]⟩, .slice none 0 0, .int .u32 0, .string ⟨#[]⟩, .string ⟨#[]⟩, .string ⟨#[]⟩, .string ⟨#[]⟩, .slice none 0 0, .int .u32 0, .string ⟨#[]⟩, .string ⟨#[]⟩, .string ⟨#[]⟩, .string ⟨#[]⟩, .slice none 0 0, .slice none 0 0, .slice none 0 0] (by kernel_rfl) ?_) | (refine wpList_store_new (by rfl) 39 _ _ (by rfl) _ _ _ _ (by rfl) (by rfl) (by simp) (by rfl) (by kernel_rfl) (by rfl) (by rfl) ?_; intro w1 hw1; have HW1 := Lib.hid hw1; clear hw1))
  have hw1 := HW1.out
  have b1 : Below w.heap.size w (w.alloc (.cells #[.int .u8 0, .int .u32 0, .string ⟨#[]⟩, .int .u16 0, .int .i32 0, .int .i32 0, .int .i32 0, .int .u8 0, .string ⟨#[]⟩, .string ⟨#[]⟩, .string ⟨#[]⟩, .slice none 0 0, .slice none 0 0, .string ⟨#[]⟩, .slice none 0 0, .int .i64 0, .slice none 0 0, .string ⟨#[]⟩, .string ⟨#[]⟩, .slice none 0 0, .int .u32 0, .string ⟨#[]⟩, .string ⟨#[]⟩, .string ⟨#[]⟩, .string ⟨#[]⟩, .slice none 0 0, .int .u32 0, .string ⟨#[]⟩, .string ⟨#[]⟩, .string ⟨#[]⟩, .string ⟨#[]⟩, .slice none 0 0, .slice none 0 0, .slice none 0 0] 39)) := (Below.refl _ _).alloc (Nat.le_refl _) _
  have b2 : Below ((w.alloc (.cells #[.int .u8 0, .int .u32 0, .string ⟨#[]⟩, .int .u16 0, .int .i32 0, .int .i32 0, .int .i32 0, .int .u8 0, .string ⟨#[]⟩, .string ⟨#[]⟩, .string ⟨#[]⟩, .slice none 0 0, .slice none 0 0, .string ⟨#[]⟩, .slice none 0 0, .int .i64 0, .slice none 0 0, .string ⟨#[]⟩, .string ⟨#[]⟩, .slice none 0 0, .int .u32 0, .string ⟨#[]⟩, .string ⟨#[]⟩, .string ⟨#[]⟩, .string ⟨#[]⟩, .slice none 0 0, .int .u32 0, .string ⟨#[]⟩, .string ⟨#[]⟩, .string ⟨#[]⟩, .string ⟨#[]⟩, .slice none 0 0, .slice none 0 0, .slice none 0 0] 39))).heap.size (w.alloc (.cells #[.int .u8 0, .int .u32 0, .string ⟨#[]⟩, .int .u16 0, .int .i32 0, .int .i32 0, .int .i32 0, .int .u8 0, .string ⟨#[]⟩, .string ⟨#[]⟩, .string ⟨#[]⟩, .slice none 0 0, .slice none 0 0, .string ⟨#[]⟩, .slice none 0 0, .int .i64 0, .slice none 0 0, .string ⟨#[]⟩, .string ⟨#[]⟩, .slice none 0 0, .int .u32 0, .string ⟨#[]⟩, .string ⟨#[]⟩, .string ⟨#[]⟩, .string ⟨#[]⟩, .slice none 0 0, .int .u32 0, .string ⟨#[]⟩, .string ⟨#[]⟩, .string ⟨#[]⟩, .string ⟨#[]⟩, .slice none 0 0, .slice none 0 0, .slice none 0 0] 39)) ((w.alloc (.cells #[.int .u8 0, .int .u32 0, .string ⟨#[]⟩, .int .u16 0, .int .i32 0, .int .i32 0, .int .i32 0, .int .u8 0, .string ⟨#[]⟩, .string ⟨#[]⟩, .string ⟨#[]⟩, .slice none 0 0, .slice none 0 0, .string ⟨#[]⟩, .slice none 0 0, .int .i64 0, .slice none 0 0, .string ⟨#[]⟩, .string ⟨#[]⟩, .slice none 0 0, .int .u32 0, .string ⟨#[]⟩, .string ⟨#[]⟩, .string ⟨#[]⟩, .string ⟨#[]⟩, .slice none 0 0, .int .u32 0, .string ⟨#[]⟩, .string ⟨#[]⟩, .string ⟨#[]⟩, .string ⟨#[]⟩, .slice none 0 0, .slice none 0 0, .slice none 0 0] 39)).alloc (.cells #[.bool false, .slice A n c, .int .i64 0] 68)) := (Below.refl _ _).alloc (Nat.le_refl _) _
  have b3 : Below (((w.alloc (.cells #[.int .u8 0, .int .u32 0, .string ⟨#[]⟩, .int .u16 0, .int .i32 0, .int .i32 0, .int .i32 0, .int .u8 0, .string ⟨#[]⟩, .string ⟨#[]⟩, .string ⟨#[]⟩, .slice none 0 0, .slice none 0 0, .string ⟨#[]⟩, .slice none 0 0, .int .i64 0, .slice none 0 0, .string ⟨#[]⟩, .string ⟨#[]⟩, .slice none 0 0, .int .u32 0, .string ⟨#[]⟩, .string ⟨#[]⟩, .string ⟨#[]⟩, .string ⟨#[]⟩, .slice none 0 0, .int .u32 0, .string ⟨#[]⟩, .string ⟨#[]⟩, .string ⟨#[]⟩, .string ⟨#[]⟩, .slice none 0 0, .slice none 0 0, .slice none 0 0] 39)).alloc (.cells #[.bool false, .slice A n c, .int .i64 0] 68))).heap.size ((w.alloc (.cells #[.int .u8 0, .int .u32 0, .string ⟨#[]⟩, .int .u16 0, .int .i32 0, .int .i32 0, .int .i32 0, .int .u8 0, .string ⟨#[]⟩, .string ⟨#[]⟩, .string ⟨#[]⟩, .slice none 0 0, .slice none 0 0, .string ⟨#[]⟩, .slice none 0 0, .int .i64 0, .slice none 0 0, .string ⟨#[]⟩, .string ⟨#[]⟩, .slice none 0 0, .int .u32 0, .string ⟨#[]⟩, .string ⟨#[]⟩, .string ⟨#[]⟩, .string ⟨#[]⟩, .slice none 0 0, .int .u32 0, .string ⟨#[]⟩, .string ⟨#[]⟩, .string ⟨#[]⟩, .string ⟨#[]⟩, .slice none 0 0, .slice none 0 0, .slice none 0 0] 39)).alloc (.cells #[.bool false, .slice A n c, .int .i64 0] 68)) w1 := by rw [hw1]; exact (Below.refl _ _).alloc (Nat.le_refl _) _
  have hb1 : Below w.heap.size w w1 := seqB b1 (seqB b2 b3)
  have hsz : w1.heap.size = w.heap.size + 3 := by rw [hw1]; simp
  have HBR : Hid (Bx (fun b => b = w.heap.size) w1 w.heap.size zeroRp) := Lib.hid (Bx.after (Bx.after (Bx.alloc w #[.int .u8 0, .int .u32 0, .string ⟨#[]⟩, .int .u16 0, .int .i32 0, .int .i32 0, .int .i32 0, .int .u8 0, .string ⟨#[]⟩, .string ⟨#[]⟩, .string ⟨#[]⟩, .slice none 0 0, .slice none 0 0, .string ⟨#[]⟩, .slice none 0 0, .int .i64 0, .slice none 0 0, .string ⟨#[]⟩, .string ⟨#[]⟩, .slice none 0 0, .int .u32 0, .string ⟨#[]⟩, .string ⟨#[]⟩, .string ⟨#[]⟩, .string ⟨#[]⟩, .slice none 0 0, .int .u32 0, .string ⟨#[]⟩, .string ⟨#[]⟩, .string ⟨#[]⟩, .string ⟨#[]⟩, .slice none 0 0, .slice none 0 0, .slice none 0 0] 39 (S := fun b => b = w.heap.size) rfl rfl) b2) b3)
  have HBX : Hid (Bx (fun b => b = w.heap.size + 1) w1 (w.heap.size + 1) [.bool false, .slice A n c, .int .i64 0]) := Lib.hid (Bx.after (Bx.alloc (w.alloc (.cells #[.int .u8 0, .int .u32 0, .string ⟨#[]⟩, .int .u16 0, .int .i32 0, .int .i32 0, .int .i32 0, .int .u8 0, .string ⟨#[]⟩, .string ⟨#[]⟩, .string ⟨#[]⟩, .slice none 0 0, .slice none 0 0, .string ⟨#[]⟩, .slice none 0 0, .int .i64 0, .slice none 0 0, .string ⟨#[]⟩, .string ⟨#[]⟩, .slice none 0 0, .int .u32 0, .string ⟨#[]⟩, .string ⟨#[]⟩, .string ⟨#[]⟩, .string ⟨#[]⟩, .slice none 0 0, .int .u32 0, .string ⟨#[]⟩, .string ⟨#[]⟩, .string ⟨#[]⟩, .string ⟨#[]⟩, .slice none 0 0, .slice none 0 0, .slice none 0 0] 39)) #[.bool false, .slice A n c, .int .i64 0] 68 (X := w.heap.size + 1) (S := fun b => b = w.heap.size + 1) (by simp) (by simp)) b3)
  have HBP : Hid (Bx (fun b => b = w.heap.size + 1 + 1) w1 (w.heap.size + 1 + 1) (rpZ op)) := Lib.hid (by rw [hw1]; exact Bx.alloc ((w.alloc (.cells #[.int .u8 0, .int .u32 0, .string ⟨#[]⟩, .int .u16 0, .int .i32 0, .int .i32 0, .int .i32 0, .int .u8 0, .string ⟨#[]⟩, .string ⟨#[]⟩, .string ⟨#[]⟩, .slice none 0 0, .slice none 0 0, .string ⟨#[]⟩, .slice none 0 0, .int .i64 0, .slice none 0 0, .string ⟨#[]⟩, .string ⟨#[]⟩, .slice none 0 0, .int .u32 0, .string ⟨#[]⟩, .string ⟨#[]⟩, .string ⟨#[]⟩, .string ⟨#[]⟩, .slice none 0 0, .int .u32 0, .string ⟨#[]⟩, .string ⟨#[]⟩, .string ⟨#[]⟩, .string ⟨#[]⟩, .slice none 0 0, .slice none 0 0, .slice none 0 0] 39)).alloc (.cells #[.bool false, .slice A n c, .int .i64 0] 68)) #[.int .u8 (op : Int), .int .u32 0, .string ⟨#[]⟩, .int .u16 0, .int .i32 0, .int .i32 0, .int .i32 0, .int .u8 0, .string ⟨#[]⟩, .string ⟨#[]⟩, .string ⟨#[]⟩, .slice none 0 0, .slice none 0 0, .string ⟨#[]⟩, .slice none 0 0, .int .i64 0, .slice none 0 0, .string ⟨#[]⟩, .string ⟨#[]⟩, .slice none 0 0, .int .u32 0, .string ⟨#[]⟩, .string ⟨#[]⟩, .string ⟨#[]⟩, .string ⟨#[]⟩, .slice none 0 0, .int .u32 0, .string ⟨#[]⟩, .string ⟨#[]⟩, .string ⟨#[]⟩, .string ⟨#[]⟩, .slice none 0 0, .slice none 0 0, .slice none 0 0] 39 (X := w.heap.size + 1 + 1) (S := fun b => b = w.heap.size + 1 + 1) (by simp) (by simp))
  clear b1 b2 b3 hw1
  have HST : Hid (StR (fun b => S b ∧ b < w.heap.size) w1 (w.heap.size + 1) (.ok bs)) := Lib.hid ⟨A, n, c, HBX.out, fun cur e => by injection e with e; subst e; exact ⟨((HS.out.mono (S' := fun b => S b ∧ b < w.heap.size) fun b h1 h2 => ⟨h1, h2⟩)).after hb1, hn⟩, fun e h => by cases h⟩
  have HSZ := Lib.hid hsz; have HB1 := Lib.hid hb1; clear hsz hb1 HW1
  refine (rdm_parts (op := op) HST.out HBP.out (fun b h => by have := h.2; omega) (fun b h => by have := h.2; omega) (by omega)).mono ?_
  rintro e w2 ⟨rfl, hr, hf, x, t, hb, hrow, htie⟩
  have HST2 := Lib.hid hr; have HF := Lib.hid hf; have HBP2 := Lib.hid hb; have HROW := Lib.hid hrow; have HTIE := Lib.hid htie
  clear hb hrow htie hf
  have HBR2 := Lib.hid (goesBx.keep HBR.out HF.out.size fun b hb hl => HF.out.block b hl (by rw [hb]; omega))
  obtain ⟨s1, hs1⟩ : ∃ s1, gR (partsRp op) (.ok bs) = s1 := ⟨_, rfl⟩
  rw [hs1] at hr
  have HS1 := Lib.hid hs1; clear hs1
  obtain ⟨A2, n2, c2, hx, h3, h4⟩ := hr
  have k1 := hx.c 1 _ rfl
  have k2 := hx.c 2 _ rfl
  clear hx
  have h3c := fun cur e => (h3 cur e).1.len
  clear h3
  have q2 := HBP2.out.lt
  have q3 := HBR2.out.lt
  have q4 := HST2.out.lt
  have HFW : Hid (Below w.heap.size w w2) := Lib.hid (Below.trans HB1.out (HF.out.below (N := w.heap.size) (by have := HB1.out.size; omega) fun b hb h => by rcases h with h | h <;> omega))
  cases s1 with
  | error e =>
    have hne : (e != 0) = true := bne_iff_ne.2 (h4 e rfl)
    have HN := Lib.hid (gp_err HS1.out)
    simp only [werr_error] at k2
    clear h4 h3c
    have HFD : Hid (Below w.heap.size w w2.drew) := Lib.hid (Below.trans HFW.out ((Below.refl _ w2).drew))
    go_upto_region 5 with fail
    refine regt_start (by kernel_rfl) ?_
    (refine regt_take 0 (v := ?_) (by rfl) (by kernel_rfl) (by kernel_rfl) (by kernel_rfl) (by exact fun _ _ _ h => h) (by rfl) ?_ ?_; rotate_left; focus (intro w hSw; go_simp; try with_reducible rfl))
    simp only [Act.put, List.setIfInBounds_toArray, List.set_cons_zero, List.set_cons_succ]
    (refine regt_take 1 (v := ?_) (by rfl) (by kernel_rfl) (by kernel_rfl) (by kernel_rfl) (by exact fun _ _ _ h => h) (by rfl) ?_ ?_; rotate_left; focus (intro w hSw; go_simp; try with_reducible rfl))
    simp only [Act.put, List.setIfInBounds_toArray, List.set_cons_zero, List.set_cons_succ]
    (refine regt_take 2 (v := ?_) (by rfl) (by kernel_rfl) (by kernel_rfl) (by kernel_rfl) (by exact fun _ _ _ h => h) (by rfl) ?_ ?_; rotate_left; focus (intro w hSw; go_simp; try with_reducible rfl))
    simp only [Act.put, List.setIfInBounds_toArray, List.set_cons_zero, List.set_cons_succ]
    (refine regt_take 3 (v := ?_) (by rfl) (by kernel_rfl) (by kernel_rfl) (by kernel_rfl) (by exact fun _ _ _ h => h) (by rfl) ?_ ?_; rotate_left; focus (intro w hSw; go_simp; try with_reducible rfl))
    simp only [Act.put, List.setIfInBounds_toArray, List.set_cons_zero, List.set_cons_succ]
    refine regt_two 4 5 (by kernel_rfl) (by rfl) (by rfl) (fun K hK => ?_) (fun K hK => ?_)
    focus
      go_simp
      refine hK.out _ _ (trivial) ?_
      clear hK K
      try simp only [Act.put, List.setIfInBounds_toArray, List.set_cons_zero, List.set_cons_succ]
      refine regt_call 5 (by kernel_rfl) (by rfl) (fun K hK => ?_)
      refine step_storeB (Bx.after HBR2.out (Below.refl _ w2).drew) (by rfl) 39 _ _ (by rfl) 0 zeroRp (by rfl) (by rfl) (by kernel_rfl) (by show 0 + 34 ≤ 34; decide) (by rfl) ?_; intro w9 hb9 hg9; have x9 := gcP hg9 (by omega) (kcell (Below.refl _ w2).drew k2); have HB9 := Lib.hid hb9; have HG9 := Lib.hid hg9; clear hb9 hg9
      refine hK.out _ _ (trivial) ?_
      clear hK K
      try simp only [Act.put, List.setIfInBounds_toArray, List.set_cons_zero, List.set_cons_succ]
      (refine regt_take 6 (v := ?_) (by rfl) (by kernel_rfl) (by kernel_rfl) (by kernel_rfl) (by exact fun _ _ _ h => h) (by rfl) ?_ ?_; rotate_left; focus (intro w hSw; go_simp; try with_reducible rfl))
      simp only [Act.put, List.setIfInBounds_toArray, List.set_cons_zero, List.set_cons_succ]
      refine wpAnyH_done (by kernel_rfl) ?_ _
    rotate_left 1
    focus
      refine step_storeB (Bx.after HBR2.out (Below.refl _ w2).drew) (by rfl) 39 _ _ (by rfl) 0 zeroRp (by rfl) (by rfl) (by kernel_rfl) (by show 0 + 34 ≤ 34; decide) (by rfl) ?_; intro w9 hb9 hg9; have x9 := gcP hg9 (by omega) (kcell (Below.refl _ w2).drew k2); have HB9 := Lib.hid hb9; have HG9 := Lib.hid hg9; clear hb9 hg9
      refine hK.out _ _ (trivial) ?_
      clear hK K
      try simp only [Act.put, List.setIfInBounds_toArray, List.set_cons_zero, List.set_cons_succ]
      refine regt_call 4 (by kernel_rfl) (by rfl) (fun K hK => ?_)
      go_simp
      refine hK.out _ _ (trivial) ?_
      clear hK K
      try simp only [Act.put, List.setIfInBounds_toArray, List.set_cons_zero, List.set_cons_succ]
      (refine regt_take 6 (v := ?_) (by rfl) (by kernel_rfl) (by kernel_rfl) (by kernel_rfl) (by exact fun _ _ _ h => h) (by rfl) ?_ ?_; rotate_left; focus (intro w hSw; go_simp; try with_reducible rfl))
      simp only [Act.put, List.setIfInBounds_toArray, List.set_cons_zero, List.set_cons_succ]
      refine wpAnyH_done (by kernel_rfl) ?_ _
    all_goals
      go_wp2_with fail
      refine bodyPost_ret (results_box (vs := zeroRp) rfl HB9.out (by rfl) (by rfl) _ Try.underlying39 rfl (by kernel_rfl)) rfl ?_
      obtain rfl := HN.out.symm.trans HR.out
      exact ⟨.z, rfl, rp_none (op := 0), below_growP HFD.out HG9.out (by omega) HFD.out.size⟩
  | ok cur =>
    have hlen : n2 = cur.length := h3c cur rfl
    simp only [werr_ok] at k2
    clear h4 h3c
    by_cases hc : cur.length = 0
    · obtain rfl : n2 = 0 := by omega
      have HN := Lib.hid (gp_ok HS1.out hc HTIE.out)
      clear hc hlen
      go_wp2_with (first | (refine wpList_loadB HBP2.out (by rfl) 39 _ (by rfl) (by rfl) _ Try.underlying39 rfl (by kernel_rfl) ?_) | (refine wpList_storeB HBR2.out (by rfl) 39 _ _ (by rfl) 0 (rpT x t) (by rfl) (by rfl) (by kernel_rfl) (by show 0 + 34 ≤ 34; decide) (by rfl) ?_; intro w9 hb9 hg9; have HB9 := Lib.hid hb9; have HG9 := Lib.hid hg9; clear hb9 hg9))
      refine bodyPost_ret (results_box (vs := rpT x t) rfl HB9.out (by rfl) (by rfl) _ Try.underlying39 rfl (by kernel_rfl)) rfl ?_
      obtain rfl := HN.out.symm.trans HR.out
      have hz9 := HG9.out.size
      refine ⟨t, rfl, goesRp.keep (goesRp.mono HROW.out (S' := fun b => w.heap.size ≤ b ∧ b ≠ w.heap.size) fun b hb _ => by have := HSZ.out; omega) HG9.out.size (fun b hb hl => HG9.out.block b hl (fun e => hb.2 (by injection e))) |> fun h => goesRp.mono h fun b hb _ => hb.1, below_growP HFW.out HG9.out (by omega) HFW.out.size⟩
    · have hn2 : (0 : Int) < (n2 : Int) := by omega
      have hn3 : decide ((0 : Int) < (n2 : Int)) = true := decide_eq_true hn2
      have HN := Lib.hid (gp_rest HS1.out hc)
      clear hc
      go_wp2_with (first | (refine wpList_built (by rfl) 39 _ (by rfl) #[.int .u8 0, .int .u32 0, .string ⟨#[]⟩, .int .u16 0, .int .i32 0, .int .i32 0, .int .i32 0, .int .u8 0, .string ⟨#[]⟩, .string ⟨#[]⟩, .string ⟨#[]⟩, .slice none 0 0, .slice none 0 0, .string ⟨#[]⟩, .slice none 0 0, .int .i64 0, .slice none 0 0, .string ⟨#[]⟩, .string ⟨#[]⟩, .slice none 0 0, .int .u32 0, .string ⟨#[]⟩, .string ⟨#[]⟩, .string ⟨#[]⟩, .string ⟨#[]⟩, .slice none 0 0, .int .u32 0, .string ⟨#[]⟩, .string ⟨#[]⟩, .string ⟨#[]⟩, .string ⟨#[]⟩, .slice none 0 0, .slice none 0 0, .slice none 0 0] (by kernel_rfl) ?_) | (refine wpList_storeB HBR2.out (by rfl) 39 _ _ (by rfl) 0 zeroRp (by rfl) (by rfl) (by kernel_rfl) (by show 0 + 34 ≤ 34; decide) (by rfl) ?_; intro w9 hb9 hg9; have HB9 := Lib.hid hb9; have HG9 := Lib.hid hg9; clear hb9 hg9))
      refine bodyPost_ret (results_box (vs := zeroRp) rfl HB9.out (by rfl) (by rfl) _ Try.underlying39 rfl (by kernel_rfl)) rfl ?_
      obtain rfl := HN.out.symm.trans HR.out
      exact ⟨.z, rfl, rp_none (op := 0), below_growP HFW.out HG9.out (by omega) HFW.out.size⟩
end Go.Proofs.Sb
