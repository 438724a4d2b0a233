/- The walk over signalboxlaw09.replyOf: a reply as the reference has it. Conditions: up to a million of each. (written by gen_ryo.py) -/
import Derived.Test.YtfeeeighafflnaaGreatRym
import Derived.Test.YtfeeeighafflnaaGreatRole
import Derived.Test.YtfeeeighafflnaaGreatRye
import Derived.Deep.CutBlock
import Derived.Deep.DeepCutAuto
set_option linter.unusedVariables false
set_option linter.unusedSimpArgs false
namespace Sb
/-- how many of each there may be -/
structure RpL (x : Rp) : Prop where
  fa : x.fault.args.length ≤ 1000000
  sc : x.note.schema.args.length ≤ 1000000
  cg : x.change.args.length ≤ 1000000
  su : x.support.length ≤ 1000000
  vals : ∀ y ∈ x.support, y.2.length ≤ 1000000
def rf0 (x : Rp) (c : Chg) : Rf := ⟨x.opcode, x.fault.code, x.fault.text, x.fault.level, x.fault.received, x.fault.needed, x.fault.failures, x.fault.data, x.fault.write, x.fault.space, x.fault.name, x.fault.args, x.fault.ident, x.support, x.token, x.note.kind, x.note.what, x.note.addr, c, x.kind, x.rest⟩
end Sb
namespace Go.Proofs.Sb
open Go.RowKit _root_.Sb
theorem own_textsI {base : Nat} {wc w5 : World} {A : Option Addr} {n c : Nat} {l : List Thing} (h : OwnA 100 5 (itemP (fun _ => False) wc) base w5 A n c l) (hz : wc.heap.size ≤ w5.heap.size) : Arr 5 (itemP (fun b => base ≤ b) w5) (fun b => base ≤ b) w5 A n c l :=
  ((h.arr (by decide)).mono (fun b hb _ => hb.1)).imp fun y _ v hp => hp.imp fun _ _ _ _ q => goesArr.mono (goesArr.keep q hz fun b hb => hb.elim) fun b hb => hb.elim
theorem own_multisI {base : Nat} {w7 : World} {A : Option Addr} {n c : Nat} {l : List Thing} {F : Nat → Prop} (h : OwnA 100 5 (itemP (fun b => base ≤ b ∧ F b) w7) base w7 A n c l) : Arr 5 (itemP (fun b => base ≤ b) w7) (fun b => base ≤ b) w7 A n c l :=
  ((h.arr (by decide)).mono (fun b hb _ => hb.1)).imp fun y _ v hp => hp.imp fun _ _ _ _ q => goesArr.mono q fun b hb _ => hb.1
theorem goesMulti {l : List (B × List B)} {A : Option Addr} {n c : Nat} : Goes fun S w => Arr 2 (multiP S w) S w A n c l :=
  ⟨fun h hs hk => (goesArr.keep h hs hk).imp fun x _ v hp => hp.imp fun _ _ _ _ h => goesArr.keep h hs hk, fun h hS => (goesArr.mono h hS).imp fun x _ v hp => hp.imp fun _ _ _ _ h => goesArr.mono h hS⟩
set_option maxHeartbeats 16000000 in
set_option maxRecDepth 100000 in
theorem replyOf_any {S : Nat → Prop} {w : World} {x : Rp} {t : Trs} (hR : RpR S w x t) (hl : RpL x) :
    Calls Tryz.prog 9 #[.agg (rpT x t).toArray] w fun e w' => ∃ t', e = .returned (.agg (rfV (rfOf x) t').toArray) ∧ RfR (fun b => w.heap.size ≤ b) w' (rfOf x) t' ∧ Below w.heap.size w w' := by
  have HP := Lib.hid (goesRp.mono (S' := fun b => b < w.heap.size) hR fun b _ h => h); clear hR
  have hn1 : t.fa.n ≤ 1000000 := by have := HP.out.fa.len; have := hl.fa; omega
  have hn2 : t.su.n ≤ 1000000 := by have := HP.out.su.len; have := hl.su; omega
  have hn3 : t.sc.n ≤ 1000000 := by have := HP.out.sc.len; have := hl.sc; omega
  have hn4 : t.cg.n ≤ 1000000 := by have := HP.out.cg.len; have := hl.cg; omega
  have HLL := Lib.hid hl; clear hl
  obtain ⟨vs, hvs⟩ : ∃ vs, vs = rpT x t := ⟨_, rfl⟩
  rw [← hvs]
  have hvl : vs.length = 34 := by rw [hvs]; rfl
  have HVS := Lib.hid hvs; clear hvs
  go_enter Tryz.func9, Tryz.ntmps9
  go_upto_region 1 with fail
  obtain ⟨w2, hw2⟩ : ∃ w2, w2 = (w.alloc (.cells vs.toArray 40)).alloc (.cells #[.int .u8 0, .int .u32 0, .string ⟨#[]⟩, .int .u16 0, .int .i32 0, .int .i32 0, .int .i32 0, .int .u8 0, .string ⟨#[]⟩, .string ⟨#[]⟩, .string ⟨#[]⟩, .slice none 0 0, .string ⟨#[]⟩, .slice none 0 0, .int .i64 0, .string ⟨#[]⟩, .string ⟨#[]⟩, .string ⟨#[]⟩, .string ⟨#[]⟩, .int .u32 0, .string ⟨#[]⟩, .string ⟨#[]⟩, .string ⟨#[]⟩, .string ⟨#[]⟩, .slice none 0 0, .int .u32 0, .string ⟨#[]⟩] 54) := ⟨_, rfl⟩
  rw [← hw2]
  have hB2 : Below w.heap.size w w2 := by rw [hw2]; exact ((Below.refl _ _).alloc (Nat.le_refl _) _).alloc (by simp) _
  have hz2 : w2.heap.size = w.heap.size + 2 := by rw [hw2]; simp
  have HBR : Hid (Bx (fun b => b = w.heap.size) w2 w.heap.size vs) := Lib.hid (by
    rw [hw2]
    exact goesBx.after (Bx.alloc w vs.toArray 40 (S := fun b => b = w.heap.size) rfl rfl) ((Below.refl _ _).alloc (Nat.le_refl _) _))
  have HBZ : Hid (Bx (fun b => b = w.heap.size + 1) w2 (w.heap.size + 1) zeroRf) := Lib.hid (by
    rw [hw2]
    exact Bx.alloc (w.alloc _) #[.int .u8 0, .int .u32 0, .string ⟨#[]⟩, .int .u16 0, .int .i32 0, .int .i32 0, .int .i32 0, .int .u8 0, .string ⟨#[]⟩, .string ⟨#[]⟩, .string ⟨#[]⟩, .slice none 0 0, .string ⟨#[]⟩, .slice none 0 0, .int .i64 0, .string ⟨#[]⟩, .string ⟨#[]⟩, .string ⟨#[]⟩, .string ⟨#[]⟩, .int .u32 0, .string ⟨#[]⟩, .string ⟨#[]⟩, .string ⟨#[]⟩, .string ⟨#[]⟩, .slice none 0 0, .int .u32 0, .string ⟨#[]⟩] 54 (X := w.heap.size + 1) (S := fun b => b = w.heap.size + 1) (by simp) (by simp))
  have HB2 := Lib.hid hB2; clear hB2 hw2
  have hlt2 : w.heap.size + 1 < w2.heap.size := by omega
  clear hz2
  go_upto_region 2 with (first | (refine wpList_load_mid (by rfl) 27 _ (by rfl) w.heap.size 1 (by rfl) [.int .u32 ((x.fault.code : Nat) : Int), .string (str x.fault.text), .int .u16 ((x.fault.level : Nat) : Int), .int .i32 x.fault.received, .int .i32 x.fault.needed, .int .i32 x.fault.failures, .int .u8 ((x.fault.data : Nat) : Int), .string (str x.fault.write), .string (str x.fault.space), .string (str x.fault.name), .slice t.fa.a t.fa.n t.fa.c, .slice t.fi.a t.fi.n t.fi.c] _ (HBR.out.range_at (o := 1) (us := [.int .u32 ((x.fault.code : Nat) : Int), .string (str x.fault.text), .int .u16 ((x.fault.level : Nat) : Int), .int .i32 x.fault.received, .int .i32 x.fault.needed, .int .i32 x.fault.failures, .int .u8 ((x.fault.data : Nat) : Int), .string (str x.fault.write), .string (str x.fault.space), .string (str x.fault.name), .slice t.fa.a t.fa.n t.fa.c, .slice t.fi.a t.fi.n t.fi.c]) (by rw [HVS.out]; rfl)) Tryz.underlying27 rfl (by kernel_rfl) ?_) | (refine wpList_store_newB (by rfl) 27 _ _ (by rfl) _ _ _ ([.int .u32 ((x.fault.code : Nat) : Int), .string (str x.fault.text), .int .u16 ((x.fault.level : Nat) : Int), .int .i32 x.fault.received, .int .i32 x.fault.needed, .int .i32 x.fault.failures, .int .u8 ((x.fault.data : Nat) : Int), .string (str x.fault.write), .string (str x.fault.space), .string (str x.fault.name), .slice t.fa.a t.fa.n t.fa.c, .slice t.fi.a t.fi.n t.fi.c] : List Value).toArray (by rfl) (by rfl) (by simp) (by rfl) (by kernel_rfl) (by rfl) (by rfl) ?_; intro w3 hb3 hz3 hx3; have HX3 : Hid (Bx (fun b => b = w2.heap.size) w3 w2.heap.size [.int .u32 ((x.fault.code : Nat) : Int), .string (str x.fault.text), .int .u16 ((x.fault.level : Nat) : Int), .int .i32 x.fault.received, .int .i32 x.fault.needed, .int .i32 x.fault.failures, .int .u8 ((x.fault.data : Nat) : Int), .string (str x.fault.write), .string (str x.fault.space), .string (str x.fault.name), .slice t.fa.a t.fa.n t.fa.c, .slice t.fi.a t.fi.n t.fi.c]) := Lib.hid hx3; have HB3 := Lib.hid hb3; clear hb3 hz3 hx3))
  obtain ⟨F, hF⟩ : ∃ F, F = w2.heap.size := ⟨_, rfl⟩
  rw [← hF] at HX3 ⊢
  have hF2 : w2.heap.size ≤ F := by omega
  clear hF
  have hF3 := HX3.out.lt
  have hz3 := HB3.out.size
  have HB03 := Lib.hid (HB2.out.trans (HB3.out.mono HB2.out.size))
  have HP3 := Lib.hid (goesRp.after HP.out HB03.out)
  have HBR3 := Lib.hid (goesBx.after HBR.out HB3.out)
  have HBZ3 := Lib.hid (goesBx.after HBZ.out HB3.out)
  have hX3 : ¬ w3.heap.size ≤ w.heap.size := by omega
  have hFn : ¬ w3.heap.size ≤ F := by omega
  have hdr : Below w3.heap.size w3 w3.drew := (Below.refl _ _).drew
  have a0 := Fr.each (T := fun b => w3.heap.size ≤ b) hX3 (kcell hdr (HBR3.out.c 0 _ (show vs[0]? = some (.int .u8 ((x.opcode : Nat) : Int)) by rw [HVS.out]; rfl)))
  have a14 := Fr.each (T := fun b => w3.heap.size ≤ b) hX3 (kcell hdr (HBR3.out.c 14 _ (show vs[14]? = some (.slice t.su.a t.su.n t.su.c) by rw [HVS.out]; rfl)))
  have a15 := Fr.each (T := fun b => w3.heap.size ≤ b) hX3 (kcell hdr (HBR3.out.c 15 _ (show vs[15]? = some (.int .i64 x.token.kind) by rw [HVS.out]; rfl)))
  have a16 := Fr.each (T := fun b => w3.heap.size ≤ b) hX3 (kcell hdr (HBR3.out.c 16 _ (show vs[16]? = some (.slice t.tk.a t.tk.n t.tk.c) by rw [HVS.out]; rfl)))
  have a17 := Fr.each (T := fun b => w3.heap.size ≤ b) hX3 (kcell hdr (HBR3.out.c 17 _ (show vs[17]? = some (.string (str x.note.kind)) by rw [HVS.out]; rfl)))
  have a18 := Fr.each (T := fun b => w3.heap.size ≤ b) hX3 (kcell hdr (HBR3.out.c 18 _ (show vs[18]? = some (.string (str x.note.what)) by rw [HVS.out]; rfl)))
  have a19 := Fr.each (T := fun b => w3.heap.size ≤ b) hX3 (kcell hdr (HBR3.out.c 19 _ (show vs[19]? = some (.slice t.ad.a t.ad.n t.ad.c) by rw [HVS.out]; rfl)))
  have a20 := Fr.each (T := fun b => w3.heap.size ≤ b) hX3 (kcell hdr (HBR3.out.c 20 _ (show vs[20]? = some (.int .u32 ((x.note.addr.port : Nat) : Int)) by rw [HVS.out]; rfl)))
  have a26 := Fr.each (T := fun b => w3.heap.size ≤ b) hX3 (kcell hdr (HBR3.out.c 26 _ (show vs[26]? = some (.int .u32 ((x.kind : Nat) : Int)) by rw [HVS.out]; rfl)))
  have a33 := Fr.each (T := fun b => w3.heap.size ≤ b) hX3 (kcell hdr (HBR3.out.c 33 _ (show vs[33]? = some (.slice t.rs.a t.rs.n t.rs.c) by rw [HVS.out]; rfl)))
  have f0 := Fr.each (T := fun b => w3.heap.size ≤ b) hFn (kcell hdr (HX3.out.c 0 (.int .u32 ((x.fault.code : Nat) : Int)) rfl))
  have f1 := Fr.each (T := fun b => w3.heap.size ≤ b) hFn (kcell hdr (HX3.out.c 1 (.string (str x.fault.text)) rfl))
  have f2 := Fr.each (T := fun b => w3.heap.size ≤ b) hFn (kcell hdr (HX3.out.c 2 (.int .u16 ((x.fault.level : Nat) : Int)) rfl))
  have f3 := Fr.each (T := fun b => w3.heap.size ≤ b) hFn (kcell hdr (HX3.out.c 3 (.int .i32 x.fault.received) rfl))
  have f4 := Fr.each (T := fun b => w3.heap.size ≤ b) hFn (kcell hdr (HX3.out.c 4 (.int .i32 x.fault.needed) rfl))
  have f5 := Fr.each (T := fun b => w3.heap.size ≤ b) hFn (kcell hdr (HX3.out.c 5 (.int .i32 x.fault.failures) rfl))
  have f6 := Fr.each (T := fun b => w3.heap.size ≤ b) hFn (kcell hdr (HX3.out.c 6 (.int .u8 ((x.fault.data : Nat) : Int)) rfl))
  have f7 := Fr.each (T := fun b => w3.heap.size ≤ b) hFn (kcell hdr (HX3.out.c 7 (.string (str x.fault.write)) rfl))
  have f8 := Fr.each (T := fun b => w3.heap.size ≤ b) hFn (kcell hdr (HX3.out.c 8 (.string (str x.fault.space)) rfl))
  have f9 := Fr.each (T := fun b => w3.heap.size ≤ b) hFn (kcell hdr (HX3.out.c 9 (.string (str x.fault.name)) rfl))
  have f10 := Fr.each (T := fun b => w3.heap.size ≤ b) hFn (kcell hdr (HX3.out.c 10 (.slice t.fa.a t.fa.n t.fa.c) rfl))
  have f11 := Fr.each (T := fun b => w3.heap.size ≤ b) hFn (kcell hdr (HX3.out.c 11 (.slice t.fi.a t.fi.n t.fi.c) rfl))
  have hc1 : ∀ w', Fr (fun b => w3.heap.size ≤ b) w3.drew w' → (convert 25 9 (.slice t.fi.a t.fi.n t.fi.c)).run Tryz.prog w' = .ok (.string (str x.fault.ident)) w' := fun w' h => conv_sl (goesSl.keep (goesSl.after HP3.out.fi hdr) h.size fun b hb hlt => h.block b hlt (by omega))
  have hc2 : ∀ w', Fr (fun b => w3.heap.size ≤ b) w3.drew w' → (convert 25 9 (.slice t.tk.a t.tk.n t.tk.c)).run Tryz.prog w' = .ok (.string (str x.token.bytes)) w' := fun w' h => conv_sl (goesSl.keep (goesSl.after HP3.out.tk hdr) h.size fun b hb hlt => h.block b hlt (by omega))
  have hc3 : ∀ w', Fr (fun b => w3.heap.size ≤ b) w3.drew w' → (convert 25 9 (.slice t.ad.a t.ad.n t.ad.c)).run Tryz.prog w' = .ok (.string (str x.note.addr.addr)) w' := fun w' h => conv_sl (goesSl.keep (goesSl.after HP3.out.ad hdr) h.size fun b hb hlt => h.block b hlt (by omega))
  have hc4 : ∀ w', Fr (fun b => w3.heap.size ≤ b) w3.drew w' → (convert 25 9 (.slice t.rs.a t.rs.n t.rs.c)).run Tryz.prog w' = .ok (.string (str x.rest)) w' := fun w' h => conv_sl (goesSl.keep (goesSl.after HP3.out.rs hdr) h.size fun b hb hlt => h.block b hlt (by omega))
  clear hdr
  have hdz : w3.drew.heap.size = w3.heap.size := rfl
  try simp only [Act.put]
  go_cut [4] (fun v wx => ∃ (Q : Nat) (A5 : Option Addr) (n5 c5 : Nat) (A7 : Option Addr) (n7 c7 : Nat), v = .pointer (some ⟨Q, 0, none⟩) ∧ w3.heap.size ≤ Q ∧ Hid (Bx (fun b => b = Q) wx Q (rfV (rf0 x Chg.none) ⟨⟨A5, n5, c5⟩, ⟨A7, n7, c7⟩, .z⟩)) ∧ Hid (Below w3.heap.size w3 wx) ∧ Hid (Arr 5 (itemP (fun b => w3.heap.size ≤ b ∧ b ≠ Q) wx) (fun b => w3.heap.size ≤ b ∧ b ≠ Q) wx A5 n5 c5 (x.fault.args.map .ofText)) ∧ Hid (Arr 5 (itemP (fun b => w3.heap.size ≤ b ∧ b ≠ Q) wx) (fun b => w3.heap.size ≤ b ∧ b ≠ Q) wx A7 n7 c7 (x.support.map .ofMulti)))
  case first =>
    refine regf_start (fun b => w3.heap.size ≤ b) (by kernel_rfl) ?_
    (refine regf_take 0 (v := ?_) (by rfl) (by kernel_rfl) (by kernel_rfl) (by kernel_rfl) (by exact fun _ _ _ h => h) (by rfl) ?_ ?_; rotate_left; focus (intro w hSw; go_simp; try with_reducible rfl))
    simp only [Act.put, List.setIfInBounds_toArray, List.set_cons_zero, List.set_cons_succ]
    (refine regf_take 1 (v := ?_) (by rfl) (by kernel_rfl) (by kernel_rfl) (by kernel_rfl) (by exact fun _ _ _ h => h) (by rfl) ?_ ?_; rotate_left; focus (intro w hSw; go_simp; try with_reducible rfl))
    simp only [Act.put, List.setIfInBounds_toArray, List.set_cons_zero, List.set_cons_succ]
    (refine regf_take 2 (v := ?_) (by rfl) (by kernel_rfl) (by kernel_rfl) (by kernel_rfl) (by exact fun _ _ _ h => h) (by rfl) ?_ ?_; rotate_left; focus (intro w hSw; go_simp; try with_reducible rfl))
    simp only [Act.put, List.setIfInBounds_toArray, List.set_cons_zero, List.set_cons_succ]
    (refine regf_take 3 (v := ?_) (by rfl) (by kernel_rfl) (by kernel_rfl) (by kernel_rfl) (by exact fun _ _ _ h => h) (by rfl) ?_ ?_; rotate_left; focus (intro w hSw; go_simp; try with_reducible rfl))
    simp only [Act.put, List.setIfInBounds_toArray, List.set_cons_zero, List.set_cons_succ]
    (refine regf_take 4 (v := ?_) (by rfl) (by kernel_rfl) (by kernel_rfl) (by kernel_rfl) (by exact fun _ _ _ h => h) (by rfl) ?_ ?_; rotate_left; focus (intro w hSw; go_simp; try with_reducible rfl))
    simp only [Act.put, List.setIfInBounds_toArray, List.set_cons_zero, List.set_cons_succ]
    (refine regf_take 5 (v := ?_) (by rfl) (by kernel_rfl) (by kernel_rfl) (by kernel_rfl) (by exact fun _ _ _ h => h) (by rfl) ?_ ?_; rotate_left; focus (intro w hSw; go_simp; try with_reducible rfl))
    simp only [Act.put, List.setIfInBounds_toArray, List.set_cons_zero, List.set_cons_succ]
    (refine regf_take 6 (v := ?_) (by rfl) (by kernel_rfl) (by kernel_rfl) (by kernel_rfl) (by exact fun _ _ _ h => h) (by rfl) ?_ ?_; rotate_left; focus (intro w hSw; go_simp; try with_reducible rfl))
    simp only [Act.put, List.setIfInBounds_toArray, List.set_cons_zero, List.set_cons_succ]
    (refine regf_take 7 (v := ?_) (by rfl) (by kernel_rfl) (by kernel_rfl) (by kernel_rfl) (by exact fun _ _ _ h => h) (by rfl) ?_ ?_; rotate_left; focus (intro w hSw; go_simp; try with_reducible rfl))
    simp only [Act.put, List.setIfInBounds_toArray, List.set_cons_zero, List.set_cons_succ]
    (refine regf_take 8 (v := ?_) (by rfl) (by kernel_rfl) (by kernel_rfl) (by kernel_rfl) (by exact fun _ _ _ h => h) (by rfl) ?_ ?_; rotate_left; focus (intro w hSw; go_simp; try with_reducible rfl))
    simp only [Act.put, List.setIfInBounds_toArray, List.set_cons_zero, List.set_cons_succ]
    (refine regf_take 9 (v := ?_) (by rfl) (by kernel_rfl) (by kernel_rfl) (by kernel_rfl) (by exact fun _ _ _ h => h) (by rfl) ?_ ?_; rotate_left; focus (intro w hSw; go_simp; try with_reducible rfl))
    simp only [Act.put, List.setIfInBounds_toArray, List.set_cons_zero, List.set_cons_succ]
    (refine regf_take 10 (v := ?_) (by rfl) (by kernel_rfl) (by kernel_rfl) (by kernel_rfl) (by exact fun _ _ _ h => h) (by rfl) ?_ ?_; rotate_left; focus (intro w hSw; go_simp; try with_reducible rfl))
    simp only [Act.put, List.setIfInBounds_toArray, List.set_cons_zero, List.set_cons_succ]
    (refine regf_take 11 (v := ?_) (by rfl) (by kernel_rfl) (by kernel_rfl) (by kernel_rfl) (by exact fun _ _ _ h => h) (by rfl) ?_ ?_; rotate_left; focus (intro w hSw; go_simp; try with_reducible rfl))
    simp only [Act.put, List.setIfInBounds_toArray, List.set_cons_zero, List.set_cons_succ]
    (refine regf_take 12 (v := ?_) (by rfl) (by kernel_rfl) (by kernel_rfl) (by kernel_rfl) (by exact fun _ _ _ h => h) (by rfl) ?_ ?_; rotate_left; focus (intro w hSw; go_simp; try with_reducible rfl))
    simp only [Act.put, List.setIfInBounds_toArray, List.set_cons_zero, List.set_cons_succ]
    (refine regf_take 13 (v := ?_) (by rfl) (by kernel_rfl) (by kernel_rfl) (by kernel_rfl) (by exact fun _ _ _ h => h) (by rfl) ?_ ?_; rotate_left; focus (intro w hSw; go_simp; try with_reducible rfl))
    simp only [Act.put, List.setIfInBounds_toArray, List.set_cons_zero, List.set_cons_succ]
    (refine regf_take 14 (v := ?_) (by rfl) (by kernel_rfl) (by kernel_rfl) (by kernel_rfl) (by exact fun _ _ _ h => h) (by rfl) ?_ ?_; rotate_left; focus (intro w hSw; go_simp; try with_reducible rfl))
    simp only [Act.put, List.setIfInBounds_toArray, List.set_cons_zero, List.set_cons_succ]
    (refine regf_take 15 (v := ?_) (by rfl) (by kernel_rfl) (by kernel_rfl) (by kernel_rfl) (by exact fun _ _ _ h => h) (by rfl) ?_ ?_; rotate_left; focus (intro w hSw; go_simp; try with_reducible rfl))
    simp only [Act.put, List.setIfInBounds_toArray, List.set_cons_zero, List.set_cons_succ]
    (refine regf_take 16 (v := ?_) (by rfl) (by kernel_rfl) (by kernel_rfl) (by kernel_rfl) (by exact fun _ _ _ h => h) (by rfl) ?_ ?_; rotate_left; focus (intro w hSw; go_simp; try with_reducible rfl))
    simp only [Act.put, List.setIfInBounds_toArray, List.set_cons_zero, List.set_cons_succ]
    (refine regf_take 17 (v := ?_) (by rfl) (by kernel_rfl) (by kernel_rfl) (by kernel_rfl) (by exact fun _ _ _ h => h) (by rfl) ?_ ?_; rotate_left; focus (intro w hSw; go_simp; try with_reducible rfl))
    simp only [Act.put, List.setIfInBounds_toArray, List.set_cons_zero, List.set_cons_succ]
    (refine regf_take 18 (v := ?_) (by rfl) (by kernel_rfl) (by kernel_rfl) (by kernel_rfl) (by exact fun _ _ _ h => h) (by rfl) ?_ ?_; rotate_left; focus (intro w hSw; go_simp; try with_reducible rfl))
    simp only [Act.put, List.setIfInBounds_toArray, List.set_cons_zero, List.set_cons_succ]
    (refine regf_take 19 (v := ?_) (by rfl) (by kernel_rfl) (by kernel_rfl) (by kernel_rfl) (by exact fun _ _ _ h => h) (by rfl) ?_ ?_; rotate_left; focus (intro w hSw; go_simp; try with_reducible rfl))
    simp only [Act.put, List.setIfInBounds_toArray, List.set_cons_zero, List.set_cons_succ]
    (refine regf_take 20 (v := ?_) (by rfl) (by kernel_rfl) (by kernel_rfl) (by kernel_rfl) (by exact fun _ _ _ h => h) (by rfl) ?_ ?_; rotate_left; focus (intro w hSw; go_simp; try with_reducible rfl))
    simp only [Act.put, List.setIfInBounds_toArray, List.set_cons_zero, List.set_cons_succ]
    (refine regf_take 21 (v := ?_) (by rfl) (by kernel_rfl) (by kernel_rfl) (by kernel_rfl) (by exact fun _ _ _ h => h) (by rfl) ?_ ?_; rotate_left; focus (intro w hSw; go_simp; try with_reducible rfl))
    simp only [Act.put, List.setIfInBounds_toArray, List.set_cons_zero, List.set_cons_succ]
    (refine regf_take 22 (v := ?_) (by rfl) (by kernel_rfl) (by kernel_rfl) (by kernel_rfl) (by exact fun _ _ _ h => h) (by rfl) ?_ ?_; rotate_left; focus (intro w hSw; go_simp; try with_reducible rfl))
    simp only [Act.put, List.setIfInBounds_toArray, List.set_cons_zero, List.set_cons_succ]
    (refine regf_take 23 (v := ?_) (by rfl) (by kernel_rfl) (by kernel_rfl) (by kernel_rfl) (by exact fun _ _ _ h => h) (by rfl) ?_ ?_; rotate_left; focus (intro w hSw; go_simp; try with_reducible rfl))
    simp only [Act.put, List.setIfInBounds_toArray, List.set_cons_zero, List.set_cons_succ]
    (refine regf_take 25 (v := ?_) (by rfl) (by kernel_rfl) (by kernel_rfl) (by kernel_rfl) (by exact fun _ _ _ h => h) (by rfl) ?_ ?_; rotate_left; focus (intro w hSw; go_simp; try with_reducible rfl))
    simp only [Act.put, List.setIfInBounds_toArray, List.set_cons_zero, List.set_cons_succ]
    (refine regf_take 26 (v := ?_) (by rfl) (by kernel_rfl) (by kernel_rfl) (by kernel_rfl) (by exact fun _ _ _ h => h) (by rfl) ?_ ?_; rotate_left; focus (intro w hSw; go_simp; try with_reducible rfl))
    simp only [Act.put, List.setIfInBounds_toArray, List.set_cons_zero, List.set_cons_succ]
    (refine regf_take 27 (v := ?_) (by rfl) (by kernel_rfl) (by kernel_rfl) (by kernel_rfl) (by exact fun _ _ _ h => h) (by rfl) ?_ ?_; rotate_left; focus (intro w hSw; go_simp; try with_reducible rfl))
    simp only [Act.put, List.setIfInBounds_toArray, List.set_cons_zero, List.set_cons_succ]
    (refine regf_take 28 (v := ?_) (by rfl) (by kernel_rfl) (by kernel_rfl) (by kernel_rfl) (by exact fun _ _ _ h => h) (by rfl) ?_ ?_; rotate_left; focus (intro w hSw; go_simp; try with_reducible rfl))
    simp only [Act.put, List.setIfInBounds_toArray, List.set_cons_zero, List.set_cons_succ]
    (refine regf_take 29 (v := ?_) (by rfl) (by kernel_rfl) (by kernel_rfl) (by kernel_rfl) (by exact fun _ _ _ h => h) (by rfl) ?_ ?_; rotate_left; focus (intro w hSw; go_simp; try with_reducible rfl))
    simp only [Act.put, List.setIfInBounds_toArray, List.set_cons_zero, List.set_cons_succ]
    (refine regf_take 31 (v := ?_) (by rfl) (by kernel_rfl) (by kernel_rfl) (by kernel_rfl) (by exact fun _ _ _ h => h) (by rfl) ?_ ?_; rotate_left; focus (intro w hSw; go_simp; try with_reducible rfl))
    simp only [Act.put, List.setIfInBounds_toArray, List.set_cons_zero, List.set_cons_succ]
    (refine regf_take 32 (v := ?_) (by rfl) (by kernel_rfl) (by kernel_rfl) (by kernel_rfl) (by exact fun _ _ _ h => h) (by rfl) ?_ ?_; rotate_left; focus (intro w hSw; go_simp; try with_reducible rfl))
    simp only [Act.put, List.setIfInBounds_toArray, List.set_cons_zero, List.set_cons_succ]
    (refine regf_take 33 (v := ?_) (by rfl) (by kernel_rfl) (by kernel_rfl) (by kernel_rfl) (by exact fun _ _ _ h => h) (by rfl) ?_ ?_; rotate_left; focus (intro w hSw; go_simp; try with_reducible rfl))
    simp only [Act.put, List.setIfInBounds_toArray, List.set_cons_zero, List.set_cons_succ]
    (refine regf_take 34 (v := ?_) (by rfl) (by kernel_rfl) (by kernel_rfl) (by kernel_rfl) (by exact fun _ _ _ h => h) (by rfl) ?_ ?_; rotate_left; focus (intro w hSw; go_simp; try with_reducible rfl))
    simp only [Act.put, List.setIfInBounds_toArray, List.set_cons_zero, List.set_cons_succ]
    (refine regf_take 35 (v := ?_) (by rfl) (by kernel_rfl) (by kernel_rfl) (by kernel_rfl) (by exact fun _ _ _ h => h) (by rfl) ?_ ?_; rotate_left; focus (intro w hSw; go_simp; try with_reducible rfl))
    simp only [Act.put, List.setIfInBounds_toArray, List.set_cons_zero, List.set_cons_succ]
    (refine regf_take 36 (v := ?_) (by rfl) (by kernel_rfl) (by kernel_rfl) (by kernel_rfl) (by exact fun _ _ _ h => h) (by rfl) ?_ ?_; rotate_left; focus (intro w hSw; go_simp; try with_reducible rfl))
    simp only [Act.put, List.setIfInBounds_toArray, List.set_cons_zero, List.set_cons_succ]
    (refine regf_take 37 (v := ?_) (by rfl) (by kernel_rfl) (by kernel_rfl) (by kernel_rfl) (by exact fun _ _ _ h => h) (by rfl) ?_ ?_; rotate_left; focus (intro w hSw; go_simp; try with_reducible rfl))
    simp only [Act.put, List.setIfInBounds_toArray, List.set_cons_zero, List.set_cons_succ]
    (refine regf_take 38 (v := ?_) (by rfl) (by kernel_rfl) (by kernel_rfl) (by kernel_rfl) (by exact fun _ _ _ h => h) (by rfl) ?_ ?_; rotate_left; focus (intro w hSw; go_simp; try with_reducible rfl))
    simp only [Act.put, List.setIfInBounds_toArray, List.set_cons_zero, List.set_cons_succ]
    (refine regf_take 39 (v := ?_) (by rfl) (by kernel_rfl) (by kernel_rfl) (by kernel_rfl) (by exact fun _ _ _ h => h) (by rfl) ?_ ?_; rotate_left; focus (intro w hSw; go_simp; try with_reducible rfl))
    simp only [Act.put, List.setIfInBounds_toArray, List.set_cons_zero, List.set_cons_succ]
    (refine regf_take 40 (v := ?_) (by rfl) (by kernel_rfl) (by kernel_rfl) (by kernel_rfl) (by exact fun _ _ _ h => h) (by rfl) ?_ ?_; rotate_left; focus (intro w hSw; go_simp; try with_reducible rfl))
    simp only [Act.put, List.setIfInBounds_toArray, List.set_cons_zero, List.set_cons_succ]
    (refine regf_take 41 (v := ?_) (by rfl) (by kernel_rfl) (by kernel_rfl) (by kernel_rfl) (by exact fun _ _ _ h => h) (by rfl) ?_ ?_; rotate_left; focus (intro w hSw; go_simp; try with_reducible rfl))
    simp only [Act.put, List.setIfInBounds_toArray, List.set_cons_zero, List.set_cons_succ]
    (refine regf_take 42 (v := ?_) (by rfl) (by kernel_rfl) (by kernel_rfl) (by kernel_rfl) (by exact fun _ _ _ h => h) (by rfl) ?_ ?_; rotate_left; focus (intro w hSw; go_simp; try with_reducible rfl))
    simp only [Act.put, List.setIfInBounds_toArray, List.set_cons_zero, List.set_cons_succ]
    (refine regf_take 43 (v := ?_) (by rfl) (by kernel_rfl) (by kernel_rfl) (by kernel_rfl) (by exact fun _ _ _ h => h) (by rfl) ?_ ?_; rotate_left; focus (intro w hSw; go_simp; try with_reducible rfl))
    simp only [Act.put, List.setIfInBounds_toArray, List.set_cons_zero, List.set_cons_succ]
    (refine regf_take 44 (v := ?_) (by rfl) (by kernel_rfl) (by kernel_rfl) (by kernel_rfl) (by exact fun _ _ _ h => h) (by rfl) ?_ ?_; rotate_left; focus (intro w hSw; go_simp; try with_reducible rfl))
    simp only [Act.put, List.setIfInBounds_toArray, List.set_cons_zero, List.set_cons_succ]
    (refine regf_take 45 (v := ?_) (by rfl) (by kernel_rfl) (by kernel_rfl) (by kernel_rfl) (by exact fun _ _ _ h => h) (by rfl) ?_ ?_; rotate_left; focus (intro w hSw; go_simp; try with_reducible rfl))
    simp only [Act.put, List.setIfInBounds_toArray, List.set_cons_zero, List.set_cons_succ]
    (refine regf_take 46 (v := ?_) (by rfl) (by kernel_rfl) (by kernel_rfl) (by kernel_rfl) (by exact fun _ _ _ h => h) (by rfl) ?_ ?_; rotate_left; focus (intro w hSw; go_simp; try with_reducible rfl))
    simp only [Act.put, List.setIfInBounds_toArray, List.set_cons_zero, List.set_cons_succ]
    (refine regf_take 47 (v := ?_) (by rfl) (by kernel_rfl) (by kernel_rfl) (by kernel_rfl) (by exact fun _ _ _ h => h) (by rfl) ?_ ?_; rotate_left; focus (intro w hSw; go_simp; try with_reducible rfl))
    simp only [Act.put, List.setIfInBounds_toArray, List.set_cons_zero, List.set_cons_succ]
    (refine regf_take 48 (v := ?_) (by rfl) (by kernel_rfl) (by kernel_rfl) (by kernel_rfl) (by exact fun _ _ _ h => h) (by rfl) ?_ ?_; rotate_left; focus (intro w hSw; go_simp; try with_reducible rfl))
    simp only [Act.put, List.setIfInBounds_toArray, List.set_cons_zero, List.set_cons_succ]
    (refine regf_take 49 (v := ?_) (by rfl) (by kernel_rfl) (by kernel_rfl) (by kernel_rfl) (by exact fun _ _ _ h => h) (by rfl) ?_ ?_; rotate_left; focus (intro w hSw; go_simp; try with_reducible rfl))
    simp only [Act.put, List.setIfInBounds_toArray, List.set_cons_zero, List.set_cons_succ]
    (refine regf_take 50 (v := ?_) (by rfl) (by kernel_rfl) (by kernel_rfl) (by kernel_rfl) (by exact fun _ _ _ h => h) (by rfl) ?_ ?_; rotate_left; focus (intro w hSw; go_simp; try with_reducible rfl))
    simp only [Act.put, List.setIfInBounds_toArray, List.set_cons_zero, List.set_cons_succ]
    (refine regf_take 51 (v := ?_) (by rfl) (by kernel_rfl) (by kernel_rfl) (by kernel_rfl) (by exact fun _ _ _ h => h) (by rfl) ?_ ?_; rotate_left; focus (intro w hSw; go_simp; try with_reducible rfl))
    simp only [Act.put, List.setIfInBounds_toArray, List.set_cons_zero, List.set_cons_succ]
    (refine regf_take 52 (v := ?_) (by rfl) (by kernel_rfl) (by kernel_rfl) (by kernel_rfl) (by exact fun _ _ _ h => h) (by rfl) ?_ ?_; rotate_left; focus (intro w hSw; go_simp; try with_reducible rfl))
    simp only [Act.put, List.setIfInBounds_toArray, List.set_cons_zero, List.set_cons_succ]
    (refine regf_take 53 (v := ?_) (by rfl) (by kernel_rfl) (by kernel_rfl) (by kernel_rfl) (by exact fun _ _ _ h => h) (by rfl) ?_ ?_; rotate_left; focus (intro w hSw; go_simp; try with_reducible rfl))
    simp only [Act.put, List.setIfInBounds_toArray, List.set_cons_zero, List.set_cons_succ]
    (refine regf_take 54 (v := ?_) (by rfl) (by kernel_rfl) (by kernel_rfl) (by kernel_rfl) (by exact fun _ _ _ h => h) (by rfl) ?_ ?_; rotate_left; focus (intro w hSw; go_simp; try with_reducible rfl))
    simp only [Act.put, List.setIfInBounds_toArray, List.set_cons_zero, List.set_cons_succ]
    (refine regf_take 55 (v := ?_) (by rfl) (by kernel_rfl) (by kernel_rfl) (by kernel_rfl) (by exact fun _ _ _ h => h) (by rfl) ?_ ?_; rotate_left; focus (intro w hSw; go_simp; try with_reducible rfl))
    simp only [Act.put, List.setIfInBounds_toArray, List.set_cons_zero, List.set_cons_succ]
    (refine regf_take 56 (v := ?_) (by rfl) (by kernel_rfl) (by kernel_rfl) (by kernel_rfl) (by exact fun _ _ _ h => h) (by rfl) ?_ ?_; rotate_left; focus (intro w hSw; go_simp; try with_reducible rfl))
    simp only [Act.put, List.setIfInBounds_toArray, List.set_cons_zero, List.set_cons_succ]
    (refine regf_take 57 (v := ?_) (by rfl) (by kernel_rfl) (by kernel_rfl) (by kernel_rfl) (by exact fun _ _ _ h => h) (by rfl) ?_ ?_; rotate_left; focus (intro w hSw; go_simp; try with_reducible rfl))
    simp only [Act.put, List.setIfInBounds_toArray, List.set_cons_zero, List.set_cons_succ]
    (refine regf_take 58 (v := ?_) (by rfl) (by kernel_rfl) (by kernel_rfl) (by kernel_rfl) (by exact fun _ _ _ h => h) (by rfl) ?_ ?_; rotate_left; focus (intro w hSw; go_simp; try with_reducible rfl))
    simp only [Act.put, List.setIfInBounds_toArray, List.set_cons_zero, List.set_cons_succ]
    (refine regf_take 59 (v := ?_) (by rfl) (by kernel_rfl) (by kernel_rfl) (by kernel_rfl) (by exact fun _ _ _ h => h) (by rfl) ?_ ?_; rotate_left; focus (intro w hSw; go_simp; try with_reducible rfl))
    simp only [Act.put, List.setIfInBounds_toArray, List.set_cons_zero, List.set_cons_succ]
    refine regf_two 24 61 (by kernel_rfl) (by rfl) (by rfl) (fun K hK => ?_) (fun K hK => ?_)
    focus
      go_simp
      go_at_call 17; refine (ltexts_any (S2 := fun _ => True) (goesArr.after HP3.out.fa (by first | exact hbz3 | exact (Below.refl _ _).drew)) hn1).mono ?_; rintro e w5 ⟨A5, n5, c5, rfl, ha5, hb5⟩; have ha5' := own_textsI ha5 hb5.size; have hB5 : Below w3.heap.size w3 w5 := (by first | exact hbz3.trans (hb5.mono hbz3.size) | exact (show Below w3.heap.size w3 w3.drew from (Below.refl _ _).drew).trans hb5); have hz5 := hB5.size; have hy5 := hb5.size
      refine hK.out _ _ ((Fr.of_below hb5)) ?_
      clear hK K
      try simp only [Act.put, List.setIfInBounds_toArray, List.set_cons_zero, List.set_cons_succ]
      refine regf_two 30 61 (by kernel_rfl) (by rfl) (by rfl) (fun K hK => ?_) (fun K hK => ?_)
      focus
        go_simp
        go_at_call 18; refine (lmultis_any (goesMulti.after HP3.out.su (by first | exact hB5 | exact hbz3)) HLL.out.vals hn2).mono ?_; rintro e w7 ⟨A7, n7, c7, rfl, ha7, hb7⟩; have ha7' := own_multisI ha7; have hB7 : Below w3.heap.size w3 w7 := (by first | exact hB5.trans (hb7.mono hB5.size) | exact hbz3.trans (hb7.mono hbz3.size)); have hz7 := hB7.size; have hy7 := hb7.size
        refine hK.out _ _ ((Fr.of_below hb7)) ?_
        clear hK K
        try simp only [Act.put, List.setIfInBounds_toArray, List.set_cons_zero, List.set_cons_succ]
        (refine regf_take 60 (v := ?_) (by rfl) (by kernel_rfl) (by kernel_rfl) (by kernel_rfl) (by exact fun _ _ _ h => h) (by rfl) ?_ ?_; rotate_left; focus (intro w hSw; go_simp; try with_reducible rfl))
        simp only [Act.put, List.setIfInBounds_toArray, List.set_cons_zero, List.set_cons_succ]
        refine regf_call 61 (by kernel_rfl) (by rfl) (fun K hK => ?_)
        go_simp
        first | (obtain ⟨wz, hwz⟩ : ∃ wz, wz = w7.alloc (.cells #[.int .u8 0, .int .u32 0, .string ⟨#[]⟩, .int .u16 0, .int .i32 0, .int .i32 0, .int .i32 0, .int .u8 0, .string ⟨#[]⟩, .string ⟨#[]⟩, .string ⟨#[]⟩, .slice none 0 0, .string ⟨#[]⟩, .slice none 0 0, .int .i64 0, .string ⟨#[]⟩, .string ⟨#[]⟩, .string ⟨#[]⟩, .string ⟨#[]⟩, .int .u32 0, .string ⟨#[]⟩, .string ⟨#[]⟩, .string ⟨#[]⟩, .string ⟨#[]⟩, .slice none 0 0, .int .u32 0, .string ⟨#[]⟩] 54) := ⟨_, rfl⟩; rw [← hwz]; have hbz3 : Below w3.heap.size w3 wz := (by rw [hwz]; exact hB7.alloc hB7.size _); have hxz : Bx (fun b => b = w7.heap.size) wz w7.heap.size zeroRf := (by rw [hwz]; exact Bx.alloc w7 #[.int .u8 0, .int .u32 0, .string ⟨#[]⟩, .int .u16 0, .int .i32 0, .int .i32 0, .int .i32 0, .int .u8 0, .string ⟨#[]⟩, .string ⟨#[]⟩, .string ⟨#[]⟩, .slice none 0 0, .string ⟨#[]⟩, .slice none 0 0, .int .i64 0, .string ⟨#[]⟩, .string ⟨#[]⟩, .string ⟨#[]⟩, .string ⟨#[]⟩, .int .u32 0, .string ⟨#[]⟩, .string ⟨#[]⟩, .string ⟨#[]⟩, .string ⟨#[]⟩, .slice none 0 0, .int .u32 0, .string ⟨#[]⟩] 54 (X := w7.heap.size) (S := fun b => b = w7.heap.size) (by simp) (by simp)); have hbz7 : Below w7.heap.size w7 wz := (by rw [hwz]; exact (Below.refl _ _).alloc (Nat.le_refl _) _); have hwsz : wz.heap.size = w7.heap.size + 1 := (by rw [hwz]; exact World.size_alloc _ _); clear hwz) | (obtain ⟨wz, hwz⟩ : ∃ wz, wz = w5.alloc (.cells #[.int .u8 0, .int .u32 0, .string ⟨#[]⟩, .int .u16 0, .int .i32 0, .int .i32 0, .int .i32 0, .int .u8 0, .string ⟨#[]⟩, .string ⟨#[]⟩, .string ⟨#[]⟩, .slice none 0 0, .string ⟨#[]⟩, .slice none 0 0, .int .i64 0, .string ⟨#[]⟩, .string ⟨#[]⟩, .string ⟨#[]⟩, .string ⟨#[]⟩, .int .u32 0, .string ⟨#[]⟩, .string ⟨#[]⟩, .string ⟨#[]⟩, .string ⟨#[]⟩, .slice none 0 0, .int .u32 0, .string ⟨#[]⟩] 54) := ⟨_, rfl⟩; rw [← hwz]; have hbz3 : Below w3.heap.size w3 wz := (by rw [hwz]; exact hB5.alloc hB5.size _); have hxz : Bx (fun b => b = w5.heap.size) wz w5.heap.size zeroRf := (by rw [hwz]; exact Bx.alloc w5 #[.int .u8 0, .int .u32 0, .string ⟨#[]⟩, .int .u16 0, .int .i32 0, .int .i32 0, .int .i32 0, .int .u8 0, .string ⟨#[]⟩, .string ⟨#[]⟩, .string ⟨#[]⟩, .slice none 0 0, .string ⟨#[]⟩, .slice none 0 0, .int .i64 0, .string ⟨#[]⟩, .string ⟨#[]⟩, .string ⟨#[]⟩, .string ⟨#[]⟩, .int .u32 0, .string ⟨#[]⟩, .string ⟨#[]⟩, .string ⟨#[]⟩, .string ⟨#[]⟩, .slice none 0 0, .int .u32 0, .string ⟨#[]⟩] 54 (X := w5.heap.size) (S := fun b => b = w5.heap.size) (by simp) (by simp)); have hbz5 : Below w5.heap.size w5 wz := (by rw [hwz]; exact (Below.refl _ _).alloc (Nat.le_refl _) _); have hwsz : wz.heap.size = w5.heap.size + 1 := (by rw [hwz]; exact World.size_alloc _ _); clear hwz) | (rw [show (w3.alloc (.cells #[.int .u8 0, .int .u32 0, .string ⟨#[]⟩, .int .u16 0, .int .i32 0, .int .i32 0, .int .i32 0, .int .u8 0, .string ⟨#[]⟩, .string ⟨#[]⟩, .string ⟨#[]⟩, .slice none 0 0, .string ⟨#[]⟩, .slice none 0 0, .int .i64 0, .string ⟨#[]⟩, .string ⟨#[]⟩, .string ⟨#[]⟩, .string ⟨#[]⟩, .int .u32 0, .string ⟨#[]⟩, .string ⟨#[]⟩, .string ⟨#[]⟩, .string ⟨#[]⟩, .slice none 0 0, .int .u32 0, .string ⟨#[]⟩] 54)).drew = w3.drew.alloc (.cells #[.int .u8 0, .int .u32 0, .string ⟨#[]⟩, .int .u16 0, .int .i32 0, .int .i32 0, .int .i32 0, .int .u8 0, .string ⟨#[]⟩, .string ⟨#[]⟩, .string ⟨#[]⟩, .slice none 0 0, .string ⟨#[]⟩, .slice none 0 0, .int .i64 0, .string ⟨#[]⟩, .string ⟨#[]⟩, .string ⟨#[]⟩, .string ⟨#[]⟩, .int .u32 0, .string ⟨#[]⟩, .string ⟨#[]⟩, .string ⟨#[]⟩, .string ⟨#[]⟩, .slice none 0 0, .int .u32 0, .string ⟨#[]⟩] 54) from rfl]; (obtain ⟨wz, hwz⟩ : ∃ wz, wz = w3.drew.alloc (.cells #[.int .u8 0, .int .u32 0, .string ⟨#[]⟩, .int .u16 0, .int .i32 0, .int .i32 0, .int .i32 0, .int .u8 0, .string ⟨#[]⟩, .string ⟨#[]⟩, .string ⟨#[]⟩, .slice none 0 0, .string ⟨#[]⟩, .slice none 0 0, .int .i64 0, .string ⟨#[]⟩, .string ⟨#[]⟩, .string ⟨#[]⟩, .string ⟨#[]⟩, .int .u32 0, .string ⟨#[]⟩, .string ⟨#[]⟩, .string ⟨#[]⟩, .string ⟨#[]⟩, .slice none 0 0, .int .u32 0, .string ⟨#[]⟩] 54) := ⟨_, rfl⟩; rw [← hwz]; have hbz3 : Below w3.heap.size w3 wz := (by rw [hwz]; exact (show Below w3.heap.size w3 w3.drew from (Below.refl _ _).drew).alloc (Nat.le_refl _) _); have hxz : Bx (fun b => b = w3.drew.heap.size) wz w3.drew.heap.size zeroRf := (by rw [hwz]; exact Bx.alloc w3.drew #[.int .u8 0, .int .u32 0, .string ⟨#[]⟩, .int .u16 0, .int .i32 0, .int .i32 0, .int .i32 0, .int .u8 0, .string ⟨#[]⟩, .string ⟨#[]⟩, .string ⟨#[]⟩, .slice none 0 0, .string ⟨#[]⟩, .slice none 0 0, .int .i64 0, .string ⟨#[]⟩, .string ⟨#[]⟩, .string ⟨#[]⟩, .string ⟨#[]⟩, .int .u32 0, .string ⟨#[]⟩, .string ⟨#[]⟩, .string ⟨#[]⟩, .string ⟨#[]⟩, .slice none 0 0, .int .u32 0, .string ⟨#[]⟩] 54 (X := w3.drew.heap.size) (S := fun b => b = w3.drew.heap.size) (by simp) (by simp)); have hbzd : Below w3.drew.heap.size w3.drew wz := (by rw [hwz]; exact (Below.refl _ _).alloc (Nat.le_refl _) _); have hwsz : wz.heap.size = w3.drew.heap.size + 1 := (by rw [hwz]; exact World.size_alloc _ _); clear hwz))
        refine hK.out _ _ ((Fr.of_below (by first | exact hbz7 | exact hbz5 | exact hbzd))) ?_
        clear hK K
        try simp only [Act.put, List.setIfInBounds_toArray, List.set_cons_zero, List.set_cons_succ]
        refine regf_call 62 (by kernel_rfl) (by rfl) (fun K hK => ?_)
        first | (refine step_storeB (goesBx.after (goesBx.after hxz hb5) hb7) (by rfl) 54 _ _ (by rfl) 0 (rfV (rf0 x Chg.none) ⟨⟨A5, n5, c5⟩, ⟨A7, n7, c7⟩, .z⟩) (by rfl) (by rfl) (by kernel_rfl) (by show 0 + 27 ≤ 27; decide) (by rfl) ?_; intro w9 hx9 hg9; have hQ9 : w3.heap.size ≤ w3.drew.heap.size := (by omega); have hA9 : Arr 5 (itemP (fun b => w3.heap.size ≤ b ∧ b ≠ w3.drew.heap.size) w9) (fun b => w3.heap.size ≤ b ∧ b ≠ w3.drew.heap.size) w9 A5 n5 c5 (x.fault.args.map .ofText) := goesArrI.keep (goesArrI.after (goesArrI.mono (S' := fun b => w3.heap.size ≤ b ∧ b ≠ w3.drew.heap.size) ha5' (fun b h1 h2 => ⟨by omega, by omega⟩)) hb7) hg9.size (fun b hb hl => hg9.block b hl (fun e => hb.2 (by injection e))); have hM9 : Arr 5 (itemP (fun b => w3.heap.size ≤ b ∧ b ≠ w3.drew.heap.size) w9) (fun b => w3.heap.size ≤ b ∧ b ≠ w3.drew.heap.size) w9 A7 n7 c7 (x.support.map .ofMulti) := goesArrI.keep (goesArrI.mono (S' := fun b => w3.heap.size ≤ b ∧ b ≠ w3.drew.heap.size) ha7' (fun b h1 h2 => ⟨by omega, by omega⟩)) hg9.size (fun b hb hl => hg9.block b hl (fun e => hb.2 (by injection e))); have hB9 : Below w3.heap.size w3 w9 := Below.grown1 hB7 hg9 (hB7).size hQ9) | (refine step_storeB (goesBx.after hxz hb7) (by rfl) 54 _ _ (by rfl) 0 (rfV (rf0 x Chg.none) ⟨⟨A5, n5, c5⟩, ⟨A7, n7, c7⟩, .z⟩) (by rfl) (by rfl) (by kernel_rfl) (by show 0 + 27 ≤ 27; decide) (by rfl) ?_; intro w9 hx9 hg9; have hQ9 : w3.heap.size ≤ w5.heap.size := (by omega); have hA9 : Arr 5 (itemP (fun b => w3.heap.size ≤ b ∧ b ≠ w5.heap.size) w9) (fun b => w3.heap.size ≤ b ∧ b ≠ w5.heap.size) w9 A5 n5 c5 (x.fault.args.map .ofText) := goesArrI.keep (goesArrI.after (goesArrI.after (goesArrI.mono (S' := fun b => w3.heap.size ≤ b ∧ b ≠ w5.heap.size) ha5' (fun b h1 h2 => ⟨by omega, by omega⟩)) hbz5) hb7) hg9.size (fun b hb hl => hg9.block b hl (fun e => hb.2 (by injection e))); have hM9 : Arr 5 (itemP (fun b => w3.heap.size ≤ b ∧ b ≠ w5.heap.size) w9) (fun b => w3.heap.size ≤ b ∧ b ≠ w5.heap.size) w9 A7 n7 c7 (x.support.map .ofMulti) := goesArrI.keep (goesArrI.mono (S' := fun b => w3.heap.size ≤ b ∧ b ≠ w5.heap.size) ha7' (fun b h1 h2 => ⟨by omega, by omega⟩)) hg9.size (fun b hb hl => hg9.block b hl (fun e => hb.2 (by injection e))); have hB9 : Below w3.heap.size w3 w9 := Below.grown1 hB7 hg9 (hB7).size hQ9) | (refine step_storeB hxz (by rfl) 54 _ _ (by rfl) 0 (rfV (rf0 x Chg.none) ⟨⟨A5, n5, c5⟩, ⟨A7, n7, c7⟩, .z⟩) (by rfl) (by rfl) (by kernel_rfl) (by show 0 + 27 ≤ 27; decide) (by rfl) ?_; intro w9 hx9 hg9; have hQ9 : w3.heap.size ≤ w7.heap.size := (by omega); have hA9 : Arr 5 (itemP (fun b => w3.heap.size ≤ b ∧ b ≠ w7.heap.size) w9) (fun b => w3.heap.size ≤ b ∧ b ≠ w7.heap.size) w9 A5 n5 c5 (x.fault.args.map .ofText) := goesArrI.keep (goesArrI.after (goesArrI.after (goesArrI.mono (S' := fun b => w3.heap.size ≤ b ∧ b ≠ w7.heap.size) ha5' (fun b h1 h2 => ⟨by omega, by omega⟩)) hb7) hbz7) hg9.size (fun b hb hl => hg9.block b hl (fun e => hb.2 (by injection e))); have hM9 : Arr 5 (itemP (fun b => w3.heap.size ≤ b ∧ b ≠ w7.heap.size) w9) (fun b => w3.heap.size ≤ b ∧ b ≠ w7.heap.size) w9 A7 n7 c7 (x.support.map .ofMulti) := goesArrI.keep (goesArrI.after (goesArrI.mono (S' := fun b => w3.heap.size ≤ b ∧ b ≠ w7.heap.size) ha7' (fun b h1 h2 => ⟨by omega, by omega⟩)) hbz7) hg9.size (fun b hb hl => hg9.block b hl (fun e => hb.2 (by injection e))); have hB9 : Below w3.heap.size w3 w9 := Below.grown1 hbz3 hg9 (hbz3).size hQ9)
        refine hK.out _ _ ((Fr.of_one hg9 hQ9)) ?_
        clear hK K
        try simp only [Act.put, List.setIfInBounds_toArray, List.set_cons_zero, List.set_cons_succ]
        refine wpAnyH_done (by kernel_rfl) ?_ _
      rotate_left 1
      focus
        go_simp
        first | (obtain ⟨wz, hwz⟩ : ∃ wz, wz = w7.alloc (.cells #[.int .u8 0, .int .u32 0, .string ⟨#[]⟩, .int .u16 0, .int .i32 0, .int .i32 0, .int .i32 0, .int .u8 0, .string ⟨#[]⟩, .string ⟨#[]⟩, .string ⟨#[]⟩, .slice none 0 0, .string ⟨#[]⟩, .slice none 0 0, .int .i64 0, .string ⟨#[]⟩, .string ⟨#[]⟩, .string ⟨#[]⟩, .string ⟨#[]⟩, .int .u32 0, .string ⟨#[]⟩, .string ⟨#[]⟩, .string ⟨#[]⟩, .string ⟨#[]⟩, .slice none 0 0, .int .u32 0, .string ⟨#[]⟩] 54) := ⟨_, rfl⟩; rw [← hwz]; have hbz3 : Below w3.heap.size w3 wz := (by rw [hwz]; exact hB7.alloc hB7.size _); have hxz : Bx (fun b => b = w7.heap.size) wz w7.heap.size zeroRf := (by rw [hwz]; exact Bx.alloc w7 #[.int .u8 0, .int .u32 0, .string ⟨#[]⟩, .int .u16 0, .int .i32 0, .int .i32 0, .int .i32 0, .int .u8 0, .string ⟨#[]⟩, .string ⟨#[]⟩, .string ⟨#[]⟩, .slice none 0 0, .string ⟨#[]⟩, .slice none 0 0, .int .i64 0, .string ⟨#[]⟩, .string ⟨#[]⟩, .string ⟨#[]⟩, .string ⟨#[]⟩, .int .u32 0, .string ⟨#[]⟩, .string ⟨#[]⟩, .string ⟨#[]⟩, .string ⟨#[]⟩, .slice none 0 0, .int .u32 0, .string ⟨#[]⟩] 54 (X := w7.heap.size) (S := fun b => b = w7.heap.size) (by simp) (by simp)); have hbz7 : Below w7.heap.size w7 wz := (by rw [hwz]; exact (Below.refl _ _).alloc (Nat.le_refl _) _); have hwsz : wz.heap.size = w7.heap.size + 1 := (by rw [hwz]; exact World.size_alloc _ _); clear hwz) | (obtain ⟨wz, hwz⟩ : ∃ wz, wz = w5.alloc (.cells #[.int .u8 0, .int .u32 0, .string ⟨#[]⟩, .int .u16 0, .int .i32 0, .int .i32 0, .int .i32 0, .int .u8 0, .string ⟨#[]⟩, .string ⟨#[]⟩, .string ⟨#[]⟩, .slice none 0 0, .string ⟨#[]⟩, .slice none 0 0, .int .i64 0, .string ⟨#[]⟩, .string ⟨#[]⟩, .string ⟨#[]⟩, .string ⟨#[]⟩, .int .u32 0, .string ⟨#[]⟩, .string ⟨#[]⟩, .string ⟨#[]⟩, .string ⟨#[]⟩, .slice none 0 0, .int .u32 0, .string ⟨#[]⟩] 54) := ⟨_, rfl⟩; rw [← hwz]; have hbz3 : Below w3.heap.size w3 wz := (by rw [hwz]; exact hB5.alloc hB5.size _); have hxz : Bx (fun b => b = w5.heap.size) wz w5.heap.size zeroRf := (by rw [hwz]; exact Bx.alloc w5 #[.int .u8 0, .int .u32 0, .string ⟨#[]⟩, .int .u16 0, .int .i32 0, .int .i32 0, .int .i32 0, .int .u8 0, .string ⟨#[]⟩, .string ⟨#[]⟩, .string ⟨#[]⟩, .slice none 0 0, .string ⟨#[]⟩, .slice none 0 0, .int .i64 0, .string ⟨#[]⟩, .string ⟨#[]⟩, .string ⟨#[]⟩, .string ⟨#[]⟩, .int .u32 0, .string ⟨#[]⟩, .string ⟨#[]⟩, .string ⟨#[]⟩, .string ⟨#[]⟩, .slice none 0 0, .int .u32 0, .string ⟨#[]⟩] 54 (X := w5.heap.size) (S := fun b => b = w5.heap.size) (by simp) (by simp)); have hbz5 : Below w5.heap.size w5 wz := (by rw [hwz]; exact (Below.refl _ _).alloc (Nat.le_refl _) _); have hwsz : wz.heap.size = w5.heap.size + 1 := (by rw [hwz]; exact World.size_alloc _ _); clear hwz) | (rw [show (w3.alloc (.cells #[.int .u8 0, .int .u32 0, .string ⟨#[]⟩, .int .u16 0, .int .i32 0, .int .i32 0, .int .i32 0, .int .u8 0, .string ⟨#[]⟩, .string ⟨#[]⟩, .string ⟨#[]⟩, .slice none 0 0, .string ⟨#[]⟩, .slice none 0 0, .int .i64 0, .string ⟨#[]⟩, .string ⟨#[]⟩, .string ⟨#[]⟩, .string ⟨#[]⟩, .int .u32 0, .string ⟨#[]⟩, .string ⟨#[]⟩, .string ⟨#[]⟩, .string ⟨#[]⟩, .slice none 0 0, .int .u32 0, .string ⟨#[]⟩] 54)).drew = w3.drew.alloc (.cells #[.int .u8 0, .int .u32 0, .string ⟨#[]⟩, .int .u16 0, .int .i32 0, .int .i32 0, .int .i32 0, .int .u8 0, .string ⟨#[]⟩, .string ⟨#[]⟩, .string ⟨#[]⟩, .slice none 0 0, .string ⟨#[]⟩, .slice none 0 0, .int .i64 0, .string ⟨#[]⟩, .string ⟨#[]⟩, .string ⟨#[]⟩, .string ⟨#[]⟩, .int .u32 0, .string ⟨#[]⟩, .string ⟨#[]⟩, .string ⟨#[]⟩, .string ⟨#[]⟩, .slice none 0 0, .int .u32 0, .string ⟨#[]⟩] 54) from rfl]; (obtain ⟨wz, hwz⟩ : ∃ wz, wz = w3.drew.alloc (.cells #[.int .u8 0, .int .u32 0, .string ⟨#[]⟩, .int .u16 0, .int .i32 0, .int .i32 0, .int .i32 0, .int .u8 0, .string ⟨#[]⟩, .string ⟨#[]⟩, .string ⟨#[]⟩, .slice none 0 0, .string ⟨#[]⟩, .slice none 0 0, .int .i64 0, .string ⟨#[]⟩, .string ⟨#[]⟩, .string ⟨#[]⟩, .string ⟨#[]⟩, .int .u32 0, .string ⟨#[]⟩, .string ⟨#[]⟩, .string ⟨#[]⟩, .string ⟨#[]⟩, .slice none 0 0, .int .u32 0, .string ⟨#[]⟩] 54) := ⟨_, rfl⟩; rw [← hwz]; have hbz3 : Below w3.heap.size w3 wz := (by rw [hwz]; exact (show Below w3.heap.size w3 w3.drew from (Below.refl _ _).drew).alloc (Nat.le_refl _) _); have hxz : Bx (fun b => b = w3.drew.heap.size) wz w3.drew.heap.size zeroRf := (by rw [hwz]; exact Bx.alloc w3.drew #[.int .u8 0, .int .u32 0, .string ⟨#[]⟩, .int .u16 0, .int .i32 0, .int .i32 0, .int .i32 0, .int .u8 0, .string ⟨#[]⟩, .string ⟨#[]⟩, .string ⟨#[]⟩, .slice none 0 0, .string ⟨#[]⟩, .slice none 0 0, .int .i64 0, .string ⟨#[]⟩, .string ⟨#[]⟩, .string ⟨#[]⟩, .string ⟨#[]⟩, .int .u32 0, .string ⟨#[]⟩, .string ⟨#[]⟩, .string ⟨#[]⟩, .string ⟨#[]⟩, .slice none 0 0, .int .u32 0, .string ⟨#[]⟩] 54 (X := w3.drew.heap.size) (S := fun b => b = w3.drew.heap.size) (by simp) (by simp)); have hbzd : Below w3.drew.heap.size w3.drew wz := (by rw [hwz]; exact (Below.refl _ _).alloc (Nat.le_refl _) _); have hwsz : wz.heap.size = w3.drew.heap.size + 1 := (by rw [hwz]; exact World.size_alloc _ _); clear hwz))
        refine hK.out _ _ ((Fr.of_below (by first | exact hbz7 | exact hbz5 | exact hbzd))) ?_
        clear hK K
        try simp only [Act.put, List.setIfInBounds_toArray, List.set_cons_zero, List.set_cons_succ]
        refine regf_call 30 (by kernel_rfl) (by rfl) (fun K hK => ?_)
        go_simp
        go_at_call 18; refine (lmultis_any (goesMulti.after HP3.out.su (by first | exact hB5 | exact hbz3)) HLL.out.vals hn2).mono ?_; rintro e w7 ⟨A7, n7, c7, rfl, ha7, hb7⟩; have ha7' := own_multisI ha7; have hB7 : Below w3.heap.size w3 w7 := (by first | exact hB5.trans (hb7.mono hB5.size) | exact hbz3.trans (hb7.mono hbz3.size)); have hz7 := hB7.size; have hy7 := hb7.size
        refine hK.out _ _ ((Fr.of_below hb7)) ?_
        clear hK K
        try simp only [Act.put, List.setIfInBounds_toArray, List.set_cons_zero, List.set_cons_succ]
        (refine regf_take 60 (v := ?_) (by rfl) (by kernel_rfl) (by kernel_rfl) (by kernel_rfl) (by exact fun _ _ _ h => h) (by rfl) ?_ ?_; rotate_left; focus (intro w hSw; go_simp; try with_reducible rfl))
        simp only [Act.put, List.setIfInBounds_toArray, List.set_cons_zero, List.set_cons_succ]
        refine regf_call 62 (by kernel_rfl) (by rfl) (fun K hK => ?_)
        first | (refine step_storeB (goesBx.after (goesBx.after hxz hb5) hb7) (by rfl) 54 _ _ (by rfl) 0 (rfV (rf0 x Chg.none) ⟨⟨A5, n5, c5⟩, ⟨A7, n7, c7⟩, .z⟩) (by rfl) (by rfl) (by kernel_rfl) (by show 0 + 27 ≤ 27; decide) (by rfl) ?_; intro w9 hx9 hg9; have hQ9 : w3.heap.size ≤ w3.drew.heap.size := (by omega); have hA9 : Arr 5 (itemP (fun b => w3.heap.size ≤ b ∧ b ≠ w3.drew.heap.size) w9) (fun b => w3.heap.size ≤ b ∧ b ≠ w3.drew.heap.size) w9 A5 n5 c5 (x.fault.args.map .ofText) := goesArrI.keep (goesArrI.after (goesArrI.mono (S' := fun b => w3.heap.size ≤ b ∧ b ≠ w3.drew.heap.size) ha5' (fun b h1 h2 => ⟨by omega, by omega⟩)) hb7) hg9.size (fun b hb hl => hg9.block b hl (fun e => hb.2 (by injection e))); have hM9 : Arr 5 (itemP (fun b => w3.heap.size ≤ b ∧ b ≠ w3.drew.heap.size) w9) (fun b => w3.heap.size ≤ b ∧ b ≠ w3.drew.heap.size) w9 A7 n7 c7 (x.support.map .ofMulti) := goesArrI.keep (goesArrI.mono (S' := fun b => w3.heap.size ≤ b ∧ b ≠ w3.drew.heap.size) ha7' (fun b h1 h2 => ⟨by omega, by omega⟩)) hg9.size (fun b hb hl => hg9.block b hl (fun e => hb.2 (by injection e))); have hB9 : Below w3.heap.size w3 w9 := Below.grown1 hB7 hg9 (hB7).size hQ9) | (refine step_storeB (goesBx.after hxz hb7) (by rfl) 54 _ _ (by rfl) 0 (rfV (rf0 x Chg.none) ⟨⟨A5, n5, c5⟩, ⟨A7, n7, c7⟩, .z⟩) (by rfl) (by rfl) (by kernel_rfl) (by show 0 + 27 ≤ 27; decide) (by rfl) ?_; intro w9 hx9 hg9; have hQ9 : w3.heap.size ≤ w5.heap.size := (by omega); have hA9 : Arr 5 (itemP (fun b => w3.heap.size ≤ b ∧ b ≠ w5.heap.size) w9) (fun b => w3.heap.size ≤ b ∧ b ≠ w5.heap.size) w9 A5 n5 c5 (x.fault.args.map .ofText) := goesArrI.keep (goesArrI.after (goesArrI.after (goesArrI.mono (S' := fun b => w3.heap.size ≤ b ∧ b ≠ w5.heap.size) ha5' (fun b h1 h2 => ⟨by omega, by omega⟩)) hbz5) hb7) hg9.size (fun b hb hl => hg9.block b hl (fun e => hb.2 (by injection e))); have hM9 : Arr 5 (itemP (fun b => w3.heap.size ≤ b ∧ b ≠ w5.heap.size) w9) (fun b => w3.heap.size ≤ b ∧ b ≠ w5.heap.size) w9 A7 n7 c7 (x.support.map .ofMulti) := goesArrI.keep (goesArrI.mono (S' := fun b => w3.heap.size ≤ b ∧ b ≠ w5.heap.size) ha7' (fun b h1 h2 => ⟨by omega, by omega⟩)) hg9.size (fun b hb hl => hg9.block b hl (fun e => hb.2 (by injection e))); have hB9 : Below w3.heap.size w3 w9 := Below.grown1 hB7 hg9 (hB7).size hQ9) | (refine step_storeB hxz (by rfl) 54 _ _ (by rfl) 0 (rfV (rf0 x Chg.none) ⟨⟨A5, n5, c5⟩, ⟨A7, n7, c7⟩, .z⟩) (by rfl) (by rfl) (by kernel_rfl) (by show 0 + 27 ≤ 27; decide) (by rfl) ?_; intro w9 hx9 hg9; have hQ9 : w3.heap.size ≤ w7.heap.size := (by omega); have hA9 : Arr 5 (itemP (fun b => w3.heap.size ≤ b ∧ b ≠ w7.heap.size) w9) (fun b => w3.heap.size ≤ b ∧ b ≠ w7.heap.size) w9 A5 n5 c5 (x.fault.args.map .ofText) := goesArrI.keep (goesArrI.after (goesArrI.after (goesArrI.mono (S' := fun b => w3.heap.size ≤ b ∧ b ≠ w7.heap.size) ha5' (fun b h1 h2 => ⟨by omega, by omega⟩)) hb7) hbz7) hg9.size (fun b hb hl => hg9.block b hl (fun e => hb.2 (by injection e))); have hM9 : Arr 5 (itemP (fun b => w3.heap.size ≤ b ∧ b ≠ w7.heap.size) w9) (fun b => w3.heap.size ≤ b ∧ b ≠ w7.heap.size) w9 A7 n7 c7 (x.support.map .ofMulti) := goesArrI.keep (goesArrI.after (goesArrI.mono (S' := fun b => w3.heap.size ≤ b ∧ b ≠ w7.heap.size) ha7' (fun b h1 h2 => ⟨by omega, by omega⟩)) hbz7) hg9.size (fun b hb hl => hg9.block b hl (fun e => hb.2 (by injection e))); have hB9 : Below w3.heap.size w3 w9 := Below.grown1 hbz3 hg9 (hbz3).size hQ9)
        refine hK.out _ _ ((Fr.of_one hg9 hQ9)) ?_
        clear hK K
        try simp only [Act.put, List.setIfInBounds_toArray, List.set_cons_zero, List.set_cons_succ]
        refine wpAnyH_done (by kernel_rfl) ?_ _
    rotate_left 2
    focus
      go_simp
      first | (obtain ⟨wz, hwz⟩ : ∃ wz, wz = w7.alloc (.cells #[.int .u8 0, .int .u32 0, .string ⟨#[]⟩, .int .u16 0, .int .i32 0, .int .i32 0, .int .i32 0, .int .u8 0, .string ⟨#[]⟩, .string ⟨#[]⟩, .string ⟨#[]⟩, .slice none 0 0, .string ⟨#[]⟩, .slice none 0 0, .int .i64 0, .string ⟨#[]⟩, .string ⟨#[]⟩, .string ⟨#[]⟩, .string ⟨#[]⟩, .int .u32 0, .string ⟨#[]⟩, .string ⟨#[]⟩, .string ⟨#[]⟩, .string ⟨#[]⟩, .slice none 0 0, .int .u32 0, .string ⟨#[]⟩] 54) := ⟨_, rfl⟩; rw [← hwz]; have hbz3 : Below w3.heap.size w3 wz := (by rw [hwz]; exact hB7.alloc hB7.size _); have hxz : Bx (fun b => b = w7.heap.size) wz w7.heap.size zeroRf := (by rw [hwz]; exact Bx.alloc w7 #[.int .u8 0, .int .u32 0, .string ⟨#[]⟩, .int .u16 0, .int .i32 0, .int .i32 0, .int .i32 0, .int .u8 0, .string ⟨#[]⟩, .string ⟨#[]⟩, .string ⟨#[]⟩, .slice none 0 0, .string ⟨#[]⟩, .slice none 0 0, .int .i64 0, .string ⟨#[]⟩, .string ⟨#[]⟩, .string ⟨#[]⟩, .string ⟨#[]⟩, .int .u32 0, .string ⟨#[]⟩, .string ⟨#[]⟩, .string ⟨#[]⟩, .string ⟨#[]⟩, .slice none 0 0, .int .u32 0, .string ⟨#[]⟩] 54 (X := w7.heap.size) (S := fun b => b = w7.heap.size) (by simp) (by simp)); have hbz7 : Below w7.heap.size w7 wz := (by rw [hwz]; exact (Below.refl _ _).alloc (Nat.le_refl _) _); have hwsz : wz.heap.size = w7.heap.size + 1 := (by rw [hwz]; exact World.size_alloc _ _); clear hwz) | (obtain ⟨wz, hwz⟩ : ∃ wz, wz = w5.alloc (.cells #[.int .u8 0, .int .u32 0, .string ⟨#[]⟩, .int .u16 0, .int .i32 0, .int .i32 0, .int .i32 0, .int .u8 0, .string ⟨#[]⟩, .string ⟨#[]⟩, .string ⟨#[]⟩, .slice none 0 0, .string ⟨#[]⟩, .slice none 0 0, .int .i64 0, .string ⟨#[]⟩, .string ⟨#[]⟩, .string ⟨#[]⟩, .string ⟨#[]⟩, .int .u32 0, .string ⟨#[]⟩, .string ⟨#[]⟩, .string ⟨#[]⟩, .string ⟨#[]⟩, .slice none 0 0, .int .u32 0, .string ⟨#[]⟩] 54) := ⟨_, rfl⟩; rw [← hwz]; have hbz3 : Below w3.heap.size w3 wz := (by rw [hwz]; exact hB5.alloc hB5.size _); have hxz : Bx (fun b => b = w5.heap.size) wz w5.heap.size zeroRf := (by rw [hwz]; exact Bx.alloc w5 #[.int .u8 0, .int .u32 0, .string ⟨#[]⟩, .int .u16 0, .int .i32 0, .int .i32 0, .int .i32 0, .int .u8 0, .string ⟨#[]⟩, .string ⟨#[]⟩, .string ⟨#[]⟩, .slice none 0 0, .string ⟨#[]⟩, .slice none 0 0, .int .i64 0, .string ⟨#[]⟩, .string ⟨#[]⟩, .string ⟨#[]⟩, .string ⟨#[]⟩, .int .u32 0, .string ⟨#[]⟩, .string ⟨#[]⟩, .string ⟨#[]⟩, .string ⟨#[]⟩, .slice none 0 0, .int .u32 0, .string ⟨#[]⟩] 54 (X := w5.heap.size) (S := fun b => b = w5.heap.size) (by simp) (by simp)); have hbz5 : Below w5.heap.size w5 wz := (by rw [hwz]; exact (Below.refl _ _).alloc (Nat.le_refl _) _); have hwsz : wz.heap.size = w5.heap.size + 1 := (by rw [hwz]; exact World.size_alloc _ _); clear hwz) | (rw [show (w3.alloc (.cells #[.int .u8 0, .int .u32 0, .string ⟨#[]⟩, .int .u16 0, .int .i32 0, .int .i32 0, .int .i32 0, .int .u8 0, .string ⟨#[]⟩, .string ⟨#[]⟩, .string ⟨#[]⟩, .slice none 0 0, .string ⟨#[]⟩, .slice none 0 0, .int .i64 0, .string ⟨#[]⟩, .string ⟨#[]⟩, .string ⟨#[]⟩, .string ⟨#[]⟩, .int .u32 0, .string ⟨#[]⟩, .string ⟨#[]⟩, .string ⟨#[]⟩, .string ⟨#[]⟩, .slice none 0 0, .int .u32 0, .string ⟨#[]⟩] 54)).drew = w3.drew.alloc (.cells #[.int .u8 0, .int .u32 0, .string ⟨#[]⟩, .int .u16 0, .int .i32 0, .int .i32 0, .int .i32 0, .int .u8 0, .string ⟨#[]⟩, .string ⟨#[]⟩, .string ⟨#[]⟩, .slice none 0 0, .string ⟨#[]⟩, .slice none 0 0, .int .i64 0, .string ⟨#[]⟩, .string ⟨#[]⟩, .string ⟨#[]⟩, .string ⟨#[]⟩, .int .u32 0, .string ⟨#[]⟩, .string ⟨#[]⟩, .string ⟨#[]⟩, .string ⟨#[]⟩, .slice none 0 0, .int .u32 0, .string ⟨#[]⟩] 54) from rfl]; (obtain ⟨wz, hwz⟩ : ∃ wz, wz = w3.drew.alloc (.cells #[.int .u8 0, .int .u32 0, .string ⟨#[]⟩, .int .u16 0, .int .i32 0, .int .i32 0, .int .i32 0, .int .u8 0, .string ⟨#[]⟩, .string ⟨#[]⟩, .string ⟨#[]⟩, .slice none 0 0, .string ⟨#[]⟩, .slice none 0 0, .int .i64 0, .string ⟨#[]⟩, .string ⟨#[]⟩, .string ⟨#[]⟩, .string ⟨#[]⟩, .int .u32 0, .string ⟨#[]⟩, .string ⟨#[]⟩, .string ⟨#[]⟩, .string ⟨#[]⟩, .slice none 0 0, .int .u32 0, .string ⟨#[]⟩] 54) := ⟨_, rfl⟩; rw [← hwz]; have hbz3 : Below w3.heap.size w3 wz := (by rw [hwz]; exact (show Below w3.heap.size w3 w3.drew from (Below.refl _ _).drew).alloc (Nat.le_refl _) _); have hxz : Bx (fun b => b = w3.drew.heap.size) wz w3.drew.heap.size zeroRf := (by rw [hwz]; exact Bx.alloc w3.drew #[.int .u8 0, .int .u32 0, .string ⟨#[]⟩, .int .u16 0, .int .i32 0, .int .i32 0, .int .i32 0, .int .u8 0, .string ⟨#[]⟩, .string ⟨#[]⟩, .string ⟨#[]⟩, .slice none 0 0, .string ⟨#[]⟩, .slice none 0 0, .int .i64 0, .string ⟨#[]⟩, .string ⟨#[]⟩, .string ⟨#[]⟩, .string ⟨#[]⟩, .int .u32 0, .string ⟨#[]⟩, .string ⟨#[]⟩, .string ⟨#[]⟩, .string ⟨#[]⟩, .slice none 0 0, .int .u32 0, .string ⟨#[]⟩] 54 (X := w3.drew.heap.size) (S := fun b => b = w3.drew.heap.size) (by simp) (by simp)); have hbzd : Below w3.drew.heap.size w3.drew wz := (by rw [hwz]; exact (Below.refl _ _).alloc (Nat.le_refl _) _); have hwsz : wz.heap.size = w3.drew.heap.size + 1 := (by rw [hwz]; exact World.size_alloc _ _); clear hwz))
      refine hK.out _ _ ((Fr.of_below (by first | exact hbz7 | exact hbz5 | exact hbzd))) ?_
      clear hK K
      try simp only [Act.put, List.setIfInBounds_toArray, List.set_cons_zero, List.set_cons_succ]
      refine regf_call 24 (by kernel_rfl) (by rfl) (fun K hK => ?_)
      go_simp
      go_at_call 17; refine (ltexts_any (S2 := fun _ => True) (goesArr.after HP3.out.fa (by first | exact hbz3 | exact (Below.refl _ _).drew)) hn1).mono ?_; rintro e w5 ⟨A5, n5, c5, rfl, ha5, hb5⟩; have ha5' := own_textsI ha5 hb5.size; have hB5 : Below w3.heap.size w3 w5 := (by first | exact hbz3.trans (hb5.mono hbz3.size) | exact (show Below w3.heap.size w3 w3.drew from (Below.refl _ _).drew).trans hb5); have hz5 := hB5.size; have hy5 := hb5.size
      refine hK.out _ _ ((Fr.of_below hb5)) ?_
      clear hK K
      try simp only [Act.put, List.setIfInBounds_toArray, List.set_cons_zero, List.set_cons_succ]
      refine regf_call 30 (by kernel_rfl) (by rfl) (fun K hK => ?_)
      go_simp
      go_at_call 18; refine (lmultis_any (goesMulti.after HP3.out.su (by first | exact hB5 | exact hbz3)) HLL.out.vals hn2).mono ?_; rintro e w7 ⟨A7, n7, c7, rfl, ha7, hb7⟩; have ha7' := own_multisI ha7; have hB7 : Below w3.heap.size w3 w7 := (by first | exact hB5.trans (hb7.mono hB5.size) | exact hbz3.trans (hb7.mono hbz3.size)); have hz7 := hB7.size; have hy7 := hb7.size
      refine hK.out _ _ ((Fr.of_below hb7)) ?_
      clear hK K
      try simp only [Act.put, List.setIfInBounds_toArray, List.set_cons_zero, List.set_cons_succ]
      (refine regf_take 60 (v := ?_) (by rfl) (by kernel_rfl) (by kernel_rfl) (by kernel_rfl) (by exact fun _ _ _ h => h) (by rfl) ?_ ?_; rotate_left; focus (intro w hSw; go_simp; try with_reducible rfl))
      simp only [Act.put, List.setIfInBounds_toArray, List.set_cons_zero, List.set_cons_succ]
      refine regf_call 62 (by kernel_rfl) (by rfl) (fun K hK => ?_)
      first | (refine step_storeB (goesBx.after (goesBx.after hxz hb5) hb7) (by rfl) 54 _ _ (by rfl) 0 (rfV (rf0 x Chg.none) ⟨⟨A5, n5, c5⟩, ⟨A7, n7, c7⟩, .z⟩) (by rfl) (by rfl) (by kernel_rfl) (by show 0 + 27 ≤ 27; decide) (by rfl) ?_; intro w9 hx9 hg9; have hQ9 : w3.heap.size ≤ w3.drew.heap.size := (by omega); have hA9 : Arr 5 (itemP (fun b => w3.heap.size ≤ b ∧ b ≠ w3.drew.heap.size) w9) (fun b => w3.heap.size ≤ b ∧ b ≠ w3.drew.heap.size) w9 A5 n5 c5 (x.fault.args.map .ofText) := goesArrI.keep (goesArrI.after (goesArrI.mono (S' := fun b => w3.heap.size ≤ b ∧ b ≠ w3.drew.heap.size) ha5' (fun b h1 h2 => ⟨by omega, by omega⟩)) hb7) hg9.size (fun b hb hl => hg9.block b hl (fun e => hb.2 (by injection e))); have hM9 : Arr 5 (itemP (fun b => w3.heap.size ≤ b ∧ b ≠ w3.drew.heap.size) w9) (fun b => w3.heap.size ≤ b ∧ b ≠ w3.drew.heap.size) w9 A7 n7 c7 (x.support.map .ofMulti) := goesArrI.keep (goesArrI.mono (S' := fun b => w3.heap.size ≤ b ∧ b ≠ w3.drew.heap.size) ha7' (fun b h1 h2 => ⟨by omega, by omega⟩)) hg9.size (fun b hb hl => hg9.block b hl (fun e => hb.2 (by injection e))); have hB9 : Below w3.heap.size w3 w9 := Below.grown1 hB7 hg9 (hB7).size hQ9) | (refine step_storeB (goesBx.after hxz hb7) (by rfl) 54 _ _ (by rfl) 0 (rfV (rf0 x Chg.none) ⟨⟨A5, n5, c5⟩, ⟨A7, n7, c7⟩, .z⟩) (by rfl) (by rfl) (by kernel_rfl) (by show 0 + 27 ≤ 27; decide) (by rfl) ?_; intro w9 hx9 hg9; have hQ9 : w3.heap.size ≤ w5.heap.size := (by omega); have hA9 : Arr 5 (itemP (fun b => w3.heap.size ≤ b ∧ b ≠ w5.heap.size) w9) (fun b => w3.heap.size ≤ b ∧ b ≠ w5.heap.size) w9 A5 n5 c5 (x.fault.args.map .ofText) := goesArrI.keep (goesArrI.after (goesArrI.after (goesArrI.mono (S' := fun b => w3.heap.size ≤ b ∧ b ≠ w5.heap.size) ha5' (fun b h1 h2 => ⟨by omega, by omega⟩)) hbz5) hb7) hg9.size (fun b hb hl => hg9.block b hl (fun e => hb.2 (by injection e))); have hM9 : Arr 5 (itemP (fun b => w3.heap.size ≤ b ∧ b ≠ w5.heap.size) w9) (fun b => w3.heap.size ≤ b ∧ b ≠ w5.heap.size) w9 A7 n7 c7 (x.support.map .ofMulti) := goesArrI.keep (goesArrI.mono (S' := fun b => w3.heap.size ≤ b ∧ b ≠ w5.heap.size) ha7' (fun b h1 h2 => ⟨by omega, by omega⟩)) hg9.size (fun b hb hl => hg9.block b hl (fun e => hb.2 (by injection e))); have hB9 : Below w3.heap.size w3 w9 := Below.grown1 hB7 hg9 (hB7).size hQ9) | (refine step_storeB hxz (by rfl) 54 _ _ (by rfl) 0 (rfV (rf0 x Chg.none) ⟨⟨A5, n5, c5⟩, ⟨A7, n7, c7⟩, .z⟩) (by rfl) (by rfl) (by kernel_rfl) (by show 0 + 27 ≤ 27; decide) (by rfl) ?_; intro w9 hx9 hg9; have hQ9 : w3.heap.size ≤ w7.heap.size := (by omega); have hA9 : Arr 5 (itemP (fun b => w3.heap.size ≤ b ∧ b ≠ w7.heap.size) w9) (fun b => w3.heap.size ≤ b ∧ b ≠ w7.heap.size) w9 A5 n5 c5 (x.fault.args.map .ofText) := goesArrI.keep (goesArrI.after (goesArrI.after (goesArrI.mono (S' := fun b => w3.heap.size ≤ b ∧ b ≠ w7.heap.size) ha5' (fun b h1 h2 => ⟨by omega, by omega⟩)) hb7) hbz7) hg9.size (fun b hb hl => hg9.block b hl (fun e => hb.2 (by injection e))); have hM9 : Arr 5 (itemP (fun b => w3.heap.size ≤ b ∧ b ≠ w7.heap.size) w9) (fun b => w3.heap.size ≤ b ∧ b ≠ w7.heap.size) w9 A7 n7 c7 (x.support.map .ofMulti) := goesArrI.keep (goesArrI.after (goesArrI.mono (S' := fun b => w3.heap.size ≤ b ∧ b ≠ w7.heap.size) ha7' (fun b h1 h2 => ⟨by omega, by omega⟩)) hbz7) hg9.size (fun b hb hl => hg9.block b hl (fun e => hb.2 (by injection e))); have hB9 : Below w3.heap.size w3 w9 := Below.grown1 hbz3 hg9 (hbz3).size hQ9)
      refine hK.out _ _ ((Fr.of_one hg9 hQ9)) ?_
      clear hK K
      try simp only [Act.put, List.setIfInBounds_toArray, List.set_cons_zero, List.set_cons_succ]
      refine wpAnyH_done (by kernel_rfl) ?_ _
    all_goals
      have HX9 := Lib.hid hx9
      have HB9 := Lib.hid hB9
      have HA9 := Lib.hid hA9
      have HM9 := Lib.hid hM9
      clear hx9 hg9 hB9 hA9 hM9 ha5 ha5' hb5 hB5 ha7 ha7' hb7 hB7 hz5 hy5 hz7 hy7 hxz hbz3 hwsz hdz
      go_wp2_with fail
      go_meet
      exact ⟨_, _, _, _, _, _, _, rfl, hQ9, HX9, HB9, HA9, HM9⟩
  obtain ⟨Q, A5, n5, c5, A7, n7, c7, rfl, hQ3, HX5, HB5, HA5, HM5⟩ := hcut
  obtain ⟨w5, hwo⟩ : ∃ wo, wo = wc := ⟨_, rfl⟩
  subst hwo
  clear a0 a14 a15 a16 a17 a18 a19 a20 a26 a33 f0 f1 f2 f3 f4 f5 f6 f7 f8 f9 f10 f11 hc1 hc2 hc3 hc4
  have hz5 := HB5.out.size
  have hQ5 := HX5.out.lt
  have HB05 := Lib.hid (HB03.out.trans (HB5.out.mono HB03.out.size))
  have HBR5 := Lib.hid (goesBx.after HBR3.out HB5.out)
  have hlx5 := HBR5.out.lt
  go_upto_region 4 with (first | (refine wpList_load_mid (by rfl) 36 _ (by rfl) w.heap.size 27 (by rfl) [.string (str x.change.what), .string (str x.change.target), .string (str x.change.space), .string (str x.change.name), .slice t.cg.a t.cg.n t.cg.c] _ (HBR5.out.range_at (o := 27) (us := [.string (str x.change.what), .string (str x.change.target), .string (str x.change.space), .string (str x.change.name), .slice t.cg.a t.cg.n t.cg.c]) (by rw [HVS.out]; rfl)) Tryz.underlying36 rfl (by kernel_rfl) ?_) | (refine wpList_store_newB (by rfl) 36 _ _ (by rfl) _ _ _ ([.string (str x.change.what), .string (str x.change.target), .string (str x.change.space), .string (str x.change.name), .slice t.cg.a t.cg.n t.cg.c] : List Value).toArray (by rfl) (by rfl) (by simp) (by rfl) (by kernel_rfl) (by rfl) (by rfl) ?_; intro w6 hb6 hz6 hx6; have HX6 : Hid (Bx (fun b => b = w5.heap.size) w6 w5.heap.size [.string (str x.change.what), .string (str x.change.target), .string (str x.change.space), .string (str x.change.name), .slice t.cg.a t.cg.n t.cg.c]) := Lib.hid hx6; have HB6 := Lib.hid hb6; clear hb6 hz6 hx6))
  obtain ⟨C, hC⟩ : ∃ C, C = w5.heap.size := ⟨_, rfl⟩
  rw [← hC] at HX6 ⊢
  have hC5 : w5.heap.size ≤ C := by omega
  clear hC
  have hC6 := HX6.out.lt
  have HBR6 := Lib.hid (goesBx.after HBR5.out HB6.out)
  have k0 := HBR6.out.c 0 _ (show vs[0]? = some (.int .u8 ((x.opcode : Nat) : Int)) by rw [HVS.out]; rfl)
  have hlx6 := HBR6.out.lt
  obtain ⟨cc, hcc⟩ : ∃ cc, cc = if x.opcode = 12 then x.note.schema else x.change := ⟨_, rfl⟩
  obtain ⟨tr, htr⟩ : ∃ tr, tr = if x.opcode = 12 then t.sc else t.cg := ⟨_, rfl⟩
  have HCC := Lib.hid hcc; have HTR := Lib.hid htr; clear hcc htr
  go_upto_if 73 with fail
  try simp only [Act.put]
  go_cut [] (fun wx => Hid (Below w5.heap.size w5 wx) ∧ Hid (Bx (fun b => b = C) wx C [.string (str cc.what), .string (str cc.target), .string (str cc.space), .string (str cc.name), .slice tr.a tr.n tr.c]))
  case first =>
    by_cases h12 : x.opcode = 12
    · have e1 : cc = x.note.schema := by rw [HCC.out, if_pos h12]
      have e2 : tr = t.sc := by rw [HTR.out, if_pos h12]
      have HE1 := Lib.hid e1; have HE2 := Lib.hid e2; clear e1 e2
      have q12 : ((x.opcode : Int) == 12) = true := by rw [h12]; rfl
      clear h12
      go_wp2_with (first | (refine wpList_load_mid (by rfl) 36 _ (by rfl) w.heap.size 21 (by rfl) [.string (str x.note.schema.what), .string (str x.note.schema.target), .string (str x.note.schema.space), .string (str x.note.schema.name), .slice t.sc.a t.sc.n t.sc.c] _ (HBR6.out.range_at (o := 21) (us := [.string (str x.note.schema.what), .string (str x.note.schema.target), .string (str x.note.schema.space), .string (str x.note.schema.name), .slice t.sc.a t.sc.n t.sc.c]) (by rw [HVS.out]; rfl)) Tryz.underlying36 rfl (by kernel_rfl) ?_) | (refine wpList_storeB HX6.out (by rfl) 36 _ _ (by rfl) 0 [.string (str x.note.schema.what), .string (str x.note.schema.target), .string (str x.note.schema.space), .string (str x.note.schema.name), .slice t.sc.a t.sc.n t.sc.c] (by rfl) (by rfl) (by kernel_rfl) (by show 0 + 5 ≤ 5; decide) (by rfl) ?_; intro w7 hx7 hg7; have HX7 : Hid (Bx (fun b => b = C) w7 C [.string (str x.note.schema.what), .string (str x.note.schema.target), .string (str x.note.schema.space), .string (str x.note.schema.name), .slice t.sc.a t.sc.n t.sc.c]) := Lib.hid hx7; have HB7 := Lib.hid (Below.grown1 HB6.out hg7 HB6.out.size hC5); clear hx7 hg7))
      go_meet
      exact ⟨HB7, Lib.hid (by rw [HE1.out, HE2.out]; exact HX7.out)⟩
    · have e1 : cc = x.change := by rw [HCC.out, if_neg h12]
      have e2 : tr = t.cg := by rw [HTR.out, if_neg h12]
      have HE1 := Lib.hid e1; have HE2 := Lib.hid e2; clear e1 e2
      have q12 : ((x.opcode : Int) == 12) = false := beq_eq_false_iff_ne.2 (by omega)
      clear h12
      go_wp2_with fail
      go_meet
      exact ⟨HB6, Lib.hid (by rw [HE1.out, HE2.out]; exact HX6.out)⟩
  obtain ⟨HB7, HX7⟩ := hcut
  obtain ⟨w7, hwo⟩ : ∃ wo, wo = wc := ⟨_, rfl⟩
  subst hwo
  clear k0 HX6 HB6 HBR6 hlx6 hC6
  have hz7 := HB7.out.size
  have HB07 := Lib.hid (HB05.out.trans (HB7.out.mono HB05.out.size))
  have HX57 := Lib.hid (goesBx.after HX5.out HB7.out)
  have HP7 := Lib.hid (goesRp.after HP.out HB07.out)
  have HCA : Hid (Arr 1 strP (fun b => b < w.heap.size) w7 tr.a tr.n tr.c cc.args) := Lib.hid (by
    rw [HCC.out, HTR.out]
    split
    · exact HP7.out.sc
    · exact HP7.out.cg)
  have hntr : tr.n ≤ 1000000 := by rw [HTR.out]; split <;> assumption
  have hC7 := HX7.out.lt
  have hQ7 := HX57.out.lt
  have hCn : ¬ (w7.heap.size ≤ C ∨ C = Q) := by omega
  have hdr : Below w7.heap.size w7 w7.drew := (Below.refl _ _).drew
  have g0 := Fr.each (T := fun b => w7.heap.size ≤ b ∨ b = Q) hCn (kcell hdr (HX7.out.c 0 (.string (str cc.what)) rfl))
  have g1 := Fr.each (T := fun b => w7.heap.size ≤ b ∨ b = Q) hCn (kcell hdr (HX7.out.c 1 (.string (str cc.target)) rfl))
  have g2 := Fr.each (T := fun b => w7.heap.size ≤ b ∨ b = Q) hCn (kcell hdr (HX7.out.c 2 (.string (str cc.space)) rfl))
  have g3 := Fr.each (T := fun b => w7.heap.size ≤ b ∨ b = Q) hCn (kcell hdr (HX7.out.c 3 (.string (str cc.name)) rfl))
  have g4 := Fr.each (T := fun b => w7.heap.size ≤ b ∨ b = Q) hCn (kcell hdr (HX7.out.c 4 (.slice tr.a tr.n tr.c) rfl))
  clear hdr
  go_upto_region 6 with fail
  refine regf_start (fun b => w7.heap.size ≤ b ∨ b = Q) (by kernel_rfl) ?_
  (refine regf_take 0 (v := ?_) (by rfl) (by kernel_rfl) (by kernel_rfl) (by kernel_rfl) (by exact fun _ _ _ h => h) (by rfl) ?_ ?_; rotate_left; focus (intro w hSw; go_simp; try with_reducible rfl))
  simp only [Act.put, List.setIfInBounds_toArray, List.set_cons_zero, List.set_cons_succ]
  (refine regf_take 1 (v := ?_) (by rfl) (by kernel_rfl) (by kernel_rfl) (by kernel_rfl) (by exact fun _ _ _ h => h) (by rfl) ?_ ?_; rotate_left; focus (intro w hSw; go_simp; try with_reducible rfl))
  simp only [Act.put, List.setIfInBounds_toArray, List.set_cons_zero, List.set_cons_succ]
  (refine regf_take 2 (v := ?_) (by rfl) (by kernel_rfl) (by kernel_rfl) (by kernel_rfl) (by exact fun _ _ _ h => h) (by rfl) ?_ ?_; rotate_left; focus (intro w hSw; go_simp; try with_reducible rfl))
  simp only [Act.put, List.setIfInBounds_toArray, List.set_cons_zero, List.set_cons_succ]
  (refine regf_take 3 (v := ?_) (by rfl) (by kernel_rfl) (by kernel_rfl) (by kernel_rfl) (by exact fun _ _ _ h => h) (by rfl) ?_ ?_; rotate_left; focus (intro w hSw; go_simp; try with_reducible rfl))
  simp only [Act.put, List.setIfInBounds_toArray, List.set_cons_zero, List.set_cons_succ]
  (refine regf_take 4 (v := ?_) (by rfl) (by kernel_rfl) (by kernel_rfl) (by kernel_rfl) (by exact fun _ _ _ h => h) (by rfl) ?_ ?_; rotate_left; focus (intro w hSw; go_simp; try with_reducible rfl))
  simp only [Act.put, List.setIfInBounds_toArray, List.set_cons_zero, List.set_cons_succ]
  (refine regf_take 5 (v := ?_) (by rfl) (by kernel_rfl) (by kernel_rfl) (by kernel_rfl) (by exact fun _ _ _ h => h) (by rfl) ?_ ?_; rotate_left; focus (intro w hSw; go_simp; try with_reducible rfl))
  simp only [Act.put, List.setIfInBounds_toArray, List.set_cons_zero, List.set_cons_succ]
  (refine regf_take 6 (v := ?_) (by rfl) (by kernel_rfl) (by kernel_rfl) (by kernel_rfl) (by exact fun _ _ _ h => h) (by rfl) ?_ ?_; rotate_left; focus (intro w hSw; go_simp; try with_reducible rfl))
  simp only [Act.put, List.setIfInBounds_toArray, List.set_cons_zero, List.set_cons_succ]
  (refine regf_take 7 (v := ?_) (by rfl) (by kernel_rfl) (by kernel_rfl) (by kernel_rfl) (by exact fun _ _ _ h => h) (by rfl) ?_ ?_; rotate_left; focus (intro w hSw; go_simp; try with_reducible rfl))
  simp only [Act.put, List.setIfInBounds_toArray, List.set_cons_zero, List.set_cons_succ]
  (refine regf_take 8 (v := ?_) (by rfl) (by kernel_rfl) (by kernel_rfl) (by kernel_rfl) (by exact fun _ _ _ h => h) (by rfl) ?_ ?_; rotate_left; focus (intro w hSw; go_simp; try with_reducible rfl))
  simp only [Act.put, List.setIfInBounds_toArray, List.set_cons_zero, List.set_cons_succ]
  (refine regf_take 9 (v := ?_) (by rfl) (by kernel_rfl) (by kernel_rfl) (by kernel_rfl) (by exact fun _ _ _ h => h) (by rfl) ?_ ?_; rotate_left; focus (intro w hSw; go_simp; try with_reducible rfl))
  simp only [Act.put, List.setIfInBounds_toArray, List.set_cons_zero, List.set_cons_succ]
  refine regf_call 10 (by kernel_rfl) (by rfl) (fun K hK => ?_)
  go_simp
  go_at_call 17; refine (ltexts_any (S2 := fun _ => True) (goesArr.after HCA.out (by repeat (first | exact Below.refl _ _ | assumption | refine Below.drew ?_ | refine below_drewN ?_ _ | refine Below.alloc ?_ (by first | (simp; done) | omega | (simp; omega)) _ | refine Below.setCell ?_ (by first | (simp; done) | omega | (simp; omega)) _))) hntr).mono ?_; rintro e w8 ⟨A8, n8, c8, rfl, ha8, hb8⟩
  refine hK.out _ _ ((Fr.of_below hb8)) ?_
  clear hK K
  try simp only [Act.put, List.setIfInBounds_toArray, List.set_cons_zero, List.set_cons_succ]
  (refine regf_take 11 (v := ?_) (by rfl) (by kernel_rfl) (by kernel_rfl) (by kernel_rfl) (by exact fun _ _ _ h => h) (by rfl) ?_ ?_; rotate_left; focus (intro w hSw; go_simp; try with_reducible rfl))
  simp only [Act.put, List.setIfInBounds_toArray, List.set_cons_zero, List.set_cons_succ]
  (refine regf_take 12 (v := ?_) (by rfl) (by kernel_rfl) (by kernel_rfl) (by kernel_rfl) (by exact fun _ _ _ h => h) (by rfl) ?_ ?_; rotate_left; focus (intro w hSw; go_simp; try with_reducible rfl))
  simp only [Act.put, List.setIfInBounds_toArray, List.set_cons_zero, List.set_cons_succ]
  refine regf_call 13 (by kernel_rfl) (by rfl) (fun K hK => ?_)
  refine step_storeB (goesBx.after (Bx.after HX57.out (Below.refl _ _).drew) hb8) (by rfl) 52 _ _ (by rfl) 20 [.string (str cc.what), .string (str cc.target), .string (str cc.space), .string (str cc.name), .slice A8 n8 c8] (by rfl) (by rfl) (by kernel_rfl) (by show 20 + 5 ≤ 27; decide) (by rfl) ?_; intro w9 hx9 hg9
  refine hK.out _ _ ((Fr.of_one hg9 (.inr rfl))) ?_
  clear hK K
  try simp only [Act.put, List.setIfInBounds_toArray, List.set_cons_zero, List.set_cons_succ]
  refine wpAnyH_done (by kernel_rfl) ?_ _
  have hb8' : Below w7.heap.size w7 w8 := Below.trans (show Below w7.heap.size w7 w7.drew from (Below.refl _ _).drew) hb8
  have HX9 : Hid (Bx (fun b => b = Q) w9 Q (rfV (rf0 x cc) ⟨⟨A5, n5, c5⟩, ⟨A7, n7, c7⟩, ⟨A8, n8, c8⟩⟩)) := Lib.hid hx9
  have hz8 := hb8'.size
  have ha8' := own_textsI ha8 hb8.size
  have hdz : w7.drew.heap.size = w7.heap.size := rfl
  have HRF9 : Hid (RfR (fun b => w3.heap.size ≤ b ∧ b ≠ Q) w9 (rf0 x cc) ⟨⟨A5, n5, c5⟩, ⟨A7, n7, c7⟩, ⟨A8, n8, c8⟩⟩) := Lib.hid (goesRf.keep (w := w8) ⟨goesArrI.after (goesArrI.after HA5.out HB7.out) hb8', goesArrI.after (goesArrI.after HM5.out HB7.out) hb8', goesArrI.mono ha8' (fun b h1 _ => by constructor <;> omega)⟩ hg9.size fun b hb hl => hg9.block b hl (fun e => hb.2 (by injection e)))
  have HB9 : Hid (Below w3.heap.size w3 w9) := Lib.hid (Below.grown1 ((HB5.out.trans (HB7.out.mono hz5)).trans (hb8'.mono (by omega))) hg9 (by omega) hQ3)
  clear hx9 hg9 hb8 hb8' ha8 ha8' hdz hz8 g0 g1 g2 g3 g4 hCn HX7 HX57
  obtain ⟨T9, hT9⟩ : ∃ T9, T9 = (⟨⟨A5, n5, c5⟩, ⟨A7, n7, c7⟩, ⟨A8, n8, c8⟩⟩ : Tfs) := ⟨_, rfl⟩
  rw [← hT9] at HX9 HRF9
  clear hT9
  have HB09 := Lib.hid (HB03.out.trans (HB9.out.mono HB03.out.size))
  have HBR9 := Lib.hid (goesBx.after HBR3.out HB9.out)
  have HBZ9 := Lib.hid (goesBx.after HBZ3.out HB9.out)
  have k0 := HBR9.out.c 0 _ (show vs[0]? = some (.int .u8 ((x.opcode : Nat) : Int)) by rw [HVS.out]; rfl)
  have k13 := HBR9.out.c 13 _ (show vs[13]? = some (.string (str x.text)) by rw [HVS.out]; rfl)
  have k32 := HBR9.out.c 32 _ (show vs[32]? = some (.slice t.idn.a t.idn.n t.idn.c) by rw [HVS.out]; rfl)
  have q2 := HX9.out.c 2 (.string (str x.fault.text)) rfl
  have r2 := HX9.out.fr 2
  have q12 := HX9.out.c 12 (.string (str x.fault.ident)) rfl
  have r12 := HX9.out.fr 12
  have hlx9 := HBR9.out.lt
  have hlz9 := HBZ9.out.lt
  have hlq9 := HX9.out.lt
  have hwQ : w.heap.size + 1 < Q := by omega
  go_upto_if 92 with fail
  try simp only [Act.put]
  go_cut [] (fun wx => Hid (Below w3.heap.size w3 wx) ∧ Hid (Bx (fun b => b = Q) wx Q (rfV (rfOf x) T9)) ∧ Hid (RfR (fun b => w3.heap.size ≤ b ∧ b ≠ Q) wx (rfOf x) T9))
  case first =>
    by_cases h0 : x.opcode = 0
    · have e1 : rfOf x = rf0 x cc := by unfold rfOf rf0; rw [if_pos h0, if_pos h0, HCC.out]
      have HE1 := Lib.hid e1; clear e1
      have n0 : ((x.opcode : Int) != 0) = false := by rw [h0]; rfl
      clear h0
      go_wp2_with fail
      go_meet
      exact ⟨HB9, Lib.hid (by rw [HE1.out]; exact HX9.out), Lib.hid (by rw [HE1.out]; exact HRF9.out)⟩
    · have e1 : rfOf x = { rf0 x cc with text := x.text, ident := x.ident } := by unfold rfOf rf0; rw [if_neg h0, if_neg h0, HCC.out]
      have HE1 := Lib.hid e1; clear e1
      have n0 : ((x.opcode : Int) != 0) = true := bne_iff_ne.2 (by omega)
      clear h0
      have hB10 : Below w3.heap.size w3 (w9.setCell ⟨Q, 2, none⟩ (.string (str x.text))) := HB9.out.setCell hQ3 _
      have cvI := conv_sl (goesSl.after HP.out.idn (HB03.out.trans (hB10.mono HB03.out.size)))
      have HX10 := Lib.hid (HX9.out.put 2 (.string (str x.text)) (by show 2 < 27; decide))
      have HX11 := Lib.hid (HX10.out.put 12 (.string (str x.ident)) (by show 12 < 27; decide))
      have HB11 := Lib.hid (hB10.setCell (p := ⟨Q, 12, none⟩) hQ3 (.string (str x.ident)))
      have HRF10 : Hid (RfR (fun b => w3.heap.size ≤ b ∧ b ≠ Q) (w9.setCell ⟨Q, 2, none⟩ (.string (str x.text))) (rf0 x cc) T9) := Lib.hid (goesRf.keep HRF9.out (by simp) fun b hb hl => Below.heap_setCell _ ⟨Q, 2, none⟩ _ b hb.2)
      have HRF11 : Hid (RfR (fun b => w3.heap.size ≤ b ∧ b ≠ Q) ((w9.setCell ⟨Q, 2, none⟩ (.string (str x.text))).setCell ⟨Q, 12, none⟩ (.string (str x.ident))) (rf0 x cc) T9) := Lib.hid (goesRf.keep HRF10.out (by simp) fun b hb hl => Below.heap_setCell _ ⟨Q, 12, none⟩ _ b hb.2)
      clear hB10
      go_wp2_with fail
      go_meet
      exact ⟨HB11, Lib.hid (by rw [HE1.out]; exact HX11.out), Lib.hid (by rw [HE1.out]; exact ⟨HRF11.out.fa, HRF11.out.su, HRF11.out.cg⟩)⟩
  obtain ⟨HB12, HX12, HRF12⟩ := hcut
  obtain ⟨w12, hwo⟩ : ∃ wo, wo = wc := ⟨_, rfl⟩
  subst hwo
  clear k0 k13 k32 q2 r2 q12 r12
  have HBZ12 := Lib.hid (goesBx.after HBZ3.out HB12.out)
  have hlq12 := HX12.out.lt
  have hlz12 := HBZ12.out.lt
  have HB012 := Lib.hid (HB03.out.trans (HB12.out.mono HB03.out.size))
  go_wp2_with (first | (refine wpList_loadB HX12.out (by rfl) 54 _ (by rfl) (by rfl) _ Tryz.underlying54 rfl (by kernel_rfl) ?_) | (refine wpList_storeB HBZ12.out (by rfl) 54 _ _ (by rfl) 0 (rfV (rfOf x) T9) (by rfl) (by rfl) (by kernel_rfl) (by show 0 + 27 ≤ 27; decide) (by rfl) ?_; intro w13 hb13 hg13; have HY13 := Lib.hid hb13; have HG13 := Lib.hid hg13; clear hb13 hg13))
  refine bodyPost_ret (results_box1 (vs := rfV (rfOf x) T9) rfl HY13.out (by rfl) _ Tryz.underlying54 rfl (by kernel_rfl)) rfl ?_
  exact ⟨T9, rfl, goesRf.mono (goesRf.keep HRF12.out HG13.out.size fun b hb hl => HG13.out.block b hl (fun e => by have := hb.1; injection e with e; omega)) (fun b hb _ => by have := hb.1; omega), Below.grown1 HB012.out HG13.out HB012.out.size (by omega)⟩
end Go.Proofs.Sb
