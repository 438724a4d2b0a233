/- Walks over signalboxref08.parts, Get. Conditions: lengths up to 2^47. (written by gen_rqref7.py) -/
import Derived.Test.YtdgmkmadlnmhbaaRru
import Derived.Test.YtdgmkmadlnmhbaaRrv
import Derived.Test.YtdgmkmadlnmhbaaRqw
set_option linter.unusedVariables false
set_option linter.unusedSimpArgs false
namespace Sb
theorem gp1 (b : B) : getParts 1 b = bindR (getL pairR b) fun l r => .ok ({ Rq.of 1 with options := l }, r) := rfl
theorem gp5 (b : B) : getParts 5 b = .ok (Rq.of 5, b) := rfl
theorem gp7 (b : B) : getParts 7 b = bindR (getLong b) fun s r => bindR (getRun false r) fun p r => .ok ({ Rq.of 7 with text := s, run := p }, r) := rfl
theorem gp9 (b : B) : getParts 9 b = bindR (getLong b) fun s r => .ok ({ Rq.of 9 with text := s }, r) := rfl
theorem gp10 (b : B) : getParts 10 b = bindR (getText b) fun s r => bindR (getRun false r) fun p r => .ok ({ Rq.of 10 with ident := s, run := p }, r) := rfl
theorem gp11 (b : B) : getParts 11 b = bindR (getTexts b) fun l r => .ok ({ Rq.of 11 with events := l }, r) := rfl
theorem gp15 (b : B) : getParts 15 b = bindR (getValue b) fun v r => .ok ({ Rq.of 15 with token := v }, r) := rfl
theorem gp13 (b : B) : getParts 13 b = bindR (getN 1 b) fun k r => if 2 < k then .error 11 else bindR (getAll r) fun l r => bindR (getRun true r) fun p r => .ok ({ Rq.of 13 with kind := k, all := l, run := p }, r) := rfl
theorem nzPair : Nz pairR := nzBoth nzText nzText
theorem nzAll : Nz getAll := (nzN 2).bind fun n => nzMs nzStm n
theorem gpNot {op : Nat} {bs : B} (h : ¬ (op = 1 ∨ op = 5 ∨ op = 7 ∨ op = 9 ∨ op = 10 ∨ op = 11 ∨ op = 15 ∨ op = 13)) : getParts op bs = .error 22 := by
  unfold getParts
  rw [if_neg (by omega), if_neg (by omega), if_neg (by omega), if_neg (by omega), if_neg (by omega), if_neg (by omega), if_neg (by omega), if_neg (by omega)]
end Sb
namespace Go.Proofs.Sb
open Go.RowKit _root_.Sb
/-- what parts gives -/
def PartsP (w : World) (bs : B) (r : Res Rq) (e : Ending) (w' : World) : Prop :=
  ∃ x o r1 r2 ev al, ∃ q : Nat, e = .returned (.tuple #[.agg (rfV x o r1 r2 ev al).toArray, .int .i64 (q : Int), .int .i64 (rerr r)]) ∧ RfR (fun b => w.heap.size ≤ b) w' x o r1 r2 ev al ∧ (∀ y rest, r = .ok (y, rest) → x = y ∧ q ≤ bs.length ∧ bs.drop q = rest) ∧ Below w.heap.size w w'
theorem partsP_err {w : World} {bs : B} {r : Res Rq} {w' : World} {e : Int} (hE : r = .error e) (x : Rq) (o r1 r2 ev al : Slc) (q : Nat) (h : RfR (fun b => w.heap.size ≤ b) w' x o r1 r2 ev al) (hb : Below w.heap.size w w') : PartsP w bs r (.returned (.tuple #[.agg (rfV x o r1 r2 ev al).toArray, .int .i64 (q : Int), .int .i64 e])) w' := by
  subst hE
  exact ⟨x, o, r1, r2, ev, al, q, rfl, h, fun y rest h => (by cases h), hb⟩
theorem partsP_ok {w : World} {bs rest : B} {r : Res Rq} {w' : World} {x : Rq} (hE : r = .ok (x, rest)) (o r1 r2 ev al : Slc) (q : Nat) (hq : q ≤ bs.length) (hd : bs.drop q = rest) (h : RfR (fun b => w.heap.size ≤ b) w' x o r1 r2 ev al) (hb : Below w.heap.size w w') : PartsP w bs r (.returned (.tuple #[.agg (rfV x o r1 r2 ev al).toArray, .int .i64 (q : Int), .int .i64 0])) w' := by
  subst hE
  exact ⟨x, o, r1, r2, ev, al, q, rfl, h, fun y rest' h => by injection h with h; injection h with h1 h2; exact ⟨h1, hq, hd.trans h2⟩, hb⟩
theorem rfR_none {S : Nat → Prop} {w : World} (op : Nat) : RfR S w (Rq.of op) .z .z .z .z .z := ⟨Arr.nil, ⟨Arr.nil, Arr.nil⟩, Arr.nil, Arr.nil⟩
set_option maxHeartbeats 8000000 in
set_option maxRecDepth 100000 in
theorem rparts8_5 {S : Nat → Prop} {A : Option Addr} {m c : Nat} {bs : B} {w : World} (hs : Sl S w A m c bs) (hm : m ≤ 140737488355328) (r : Res Rq) (hr : getParts 5 bs = r) :
    Calls Try.prog 48 #[.int .u8 5, .slice A m c] w fun e w' => PartsP w bs r e w' := by
  have HS := Lib.hid hs.lt
  have hlb := Lib.hid hs.len
  have hcp := hs.cap
  have hcm := hs.capMax
  clear hs
  have HR := Lib.hid hr; clear hr
  have hzm : 0 ≤ m := Nat.zero_le _
  go_enter Try.func48, Try.ntmps48
  go_upto_region 2 with (first | (refine wpList_built (by rfl) 48 _ (by rfl) #[.int .u8 5, .slice none 0 0, .string ⟨#[]⟩, .string ⟨#[]⟩, .int .u16 0, .slice none 0 0, .slice none 0 0, .bool false, .bool false, .int .i32 0, .bool false, .int .i64 0, .string ⟨#[]⟩, .bool false, .int .u16 0, .bool false, .int .i64 0, .slice none 0 0, .int .i64 0, .string ⟨#[]⟩, .int .u8 0, .slice none 0 0] (by kernel_rfl) ?_) | (refine wpList_store_newB (by rfl) 48 _ _ (by rfl) _ _ _ _ (by rfl) (by rfl) (by simp) (by rfl) (by kernel_rfl) (by rfl) (by rfl) ?_; intro w2 hb2 hz2 hx2; rw [World.size_alloc] at hx2; have HX2 : Hid (Bx (fun b => b = w.heap.size + 1) w2 (w.heap.size + 1) (rfV (Rq.of 5) .z .z .z .z .z)) := Lib.hid hx2; have HXR2 : Hid (Bx (fun b => b = w.heap.size) w2 w.heap.size zeroR) := Lib.hid (goesBx.after (Bx.alloc w #[.int .u8 0, .slice none 0 0, .string ⟨#[]⟩, .string ⟨#[]⟩, .int .u16 0, .slice none 0 0, .slice none 0 0, .bool false, .bool false, .int .i32 0, .bool false, .int .i64 0, .string ⟨#[]⟩, .bool false, .int .u16 0, .bool false, .int .i64 0, .slice none 0 0, .int .i64 0, .string ⟨#[]⟩, .int .u8 0, .slice none 0 0] 48 (S := fun b => b = w.heap.size) rfl rfl) hb2); have HB2 := Lib.hid (((Below.refl w.heap.size w).alloc (Nat.le_refl _) (.cells #[.int .u8 0, .slice none 0 0, .string ⟨#[]⟩, .string ⟨#[]⟩, .int .u16 0, .slice none 0 0, .slice none 0 0, .bool false, .bool false, .int .i32 0, .bool false, .int .i64 0, .string ⟨#[]⟩, .bool false, .int .u16 0, .bool false, .int .i64 0, .slice none 0 0, .int .i64 0, .string ⟨#[]⟩, .int .u8 0, .slice none 0 0] 48)).trans (hb2.mono (by simp))); clear hb2 hz2 hx2))
  have hz2 : w.heap.size + 1 < w2.heap.size := HX2.out.lt
  have HX := HX2; have HXR := HXR2; have HB := HB2; clear HX2 HXR2 HB2
  have HRF : Hid (RfR (fun b => w.heap.size + 1 < b) w2 (Rq.of 5) .z .z .z .z .z) := Lib.hid (rfR_none 5)
  have HE : Hid (r = .ok (Rq.of 5, bs)) := Lib.hid (HR.out.symm.trans (gp5 bs))
  go_wp2_with (first | (refine wpList_loadB HX.out (by rfl) 48 _ (by rfl) (by rfl) _ Try.underlying48 rfl (by kernel_rfl) ?_) | (refine wpList_storeB HXR.out (by rfl) 48 _ _ (by rfl) 0 (rfV (Rq.of 5) .z .z .z .z .z) (by rfl) (by rfl) (by kernel_rfl) (by show 0 + 22 ≤ 22; decide) (by rfl) ?_; intro wz hxz hgz; have HXZ : Hid (Bx (fun b => b = w.heap.size) wz w.heap.size (rfV (Rq.of 5) .z .z .z .z .z)) := Lib.hid hxz; have HBZ := Lib.hid (Below.grown1 HB.out hgz HB.out.size (Nat.le_refl _)); have HRZ := Lib.hid (goesRf.mono (goesRf.keep HRF.out hgz.size fun b hb hlt => hgz.block b hlt (fun e => by injection e with e; have hb : w.heap.size + 1 < b := hb; omega)) (S' := fun b => w.heap.size ≤ b) fun b hb _ => by have hb : w.heap.size + 1 < b := hb; omega); clear hxz hgz))
  refine bodyPost_ret (results_box3 (vs := rfV (Rq.of 5) .z .z .z .z .z) rfl HXZ.out (by rfl) (by rfl) (by rfl) _ Try.underlying48 rfl (by kernel_rfl)) rfl ?_
  exact partsP_ok HE.out _ _ _ _ _ 0 (Nat.zero_le _) rfl HRZ.out HBZ.out
set_option maxHeartbeats 8000000 in
set_option maxRecDepth 100000 in
theorem rparts8_1 {S : Nat → Prop} {A : Option Addr} {m c : Nat} {bs : B} {w : World} (hs : Sl S w A m c bs) (hm : m ≤ 140737488355328) (r : Res Rq) (hr : getParts 1 bs = r) :
    Calls Try.prog 48 #[.int .u8 1, .slice A m c] w fun e w' => PartsP w bs r e w' := by
  have HS := Lib.hid hs.lt
  have hlb := Lib.hid hs.len
  have hcp := hs.cap
  have hcm := hs.capMax
  clear hs
  have HR := Lib.hid hr; clear hr
  have hzm : 0 ≤ m := Nat.zero_le _
  go_enter Try.func48, Try.ntmps48
  go_upto_region 2 with (first | (refine wpList_built (by rfl) 48 _ (by rfl) #[.int .u8 1, .slice none 0 0, .string ⟨#[]⟩, .string ⟨#[]⟩, .int .u16 0, .slice none 0 0, .slice none 0 0, .bool false, .bool false, .int .i32 0, .bool false, .int .i64 0, .string ⟨#[]⟩, .bool false, .int .u16 0, .bool false, .int .i64 0, .slice none 0 0, .int .i64 0, .string ⟨#[]⟩, .int .u8 0, .slice none 0 0] (by kernel_rfl) ?_) | (refine wpList_store_newB (by rfl) 48 _ _ (by rfl) _ _ _ _ (by rfl) (by rfl) (by simp) (by rfl) (by kernel_rfl) (by rfl) (by rfl) ?_; intro w2 hb2 hz2 hx2; rw [World.size_alloc] at hx2; have HX2 : Hid (Bx (fun b => b = w.heap.size + 1) w2 (w.heap.size + 1) (rfV (Rq.of 1) .z .z .z .z .z)) := Lib.hid hx2; have HXR2 : Hid (Bx (fun b => b = w.heap.size) w2 w.heap.size zeroR) := Lib.hid (goesBx.after (Bx.alloc w #[.int .u8 0, .slice none 0 0, .string ⟨#[]⟩, .string ⟨#[]⟩, .int .u16 0, .slice none 0 0, .slice none 0 0, .bool false, .bool false, .int .i32 0, .bool false, .int .i64 0, .string ⟨#[]⟩, .bool false, .int .u16 0, .bool false, .int .i64 0, .slice none 0 0, .int .i64 0, .string ⟨#[]⟩, .int .u8 0, .slice none 0 0] 48 (S := fun b => b = w.heap.size) rfl rfl) hb2); have HB2 := Lib.hid (((Below.refl w.heap.size w).alloc (Nat.le_refl _) (.cells #[.int .u8 0, .slice none 0 0, .string ⟨#[]⟩, .string ⟨#[]⟩, .int .u16 0, .slice none 0 0, .slice none 0 0, .bool false, .bool false, .int .i32 0, .bool false, .int .i64 0, .string ⟨#[]⟩, .bool false, .int .u16 0, .bool false, .int .i64 0, .slice none 0 0, .int .i64 0, .string ⟨#[]⟩, .int .u8 0, .slice none 0 0] 48)).trans (hb2.mono (by simp))); clear hb2 hz2 hx2))
  have hz2 : w.heap.size + 1 < w2.heap.size := HX2.out.lt
  have HX := HX2; have HXR := HXR2; have HB := HB2; clear HX2 HXR2 HB2
  obtain ⟨rz, hrz⟩ : ∃ z, getL pairR bs = z := ⟨_, rfl⟩
  have HRZ0 := Lib.hid hrz; clear hrz
  go_wp2_with fail
  refine (rgeti1_any (a := 0) (HS.out.fin HB.out) hm hzm (rmap (List.map .ofPair) rz) (by rw [List.drop_zero, get_pairs, HRZ0.out])).mono ?_
  rintro e w3 ⟨A1, n1, c1, q, rfl, harr, hq, hb3⟩
  have HQ := Lib.hid hq; clear hq
  have HX3 := Lib.hid (goesBx.after HX.out hb3)
  have HXR3 := Lib.hid (goesBx.after HXR.out hb3)
  have HB3 := Lib.hid (HB.out.trans (hb3.mono HB.out.size))
  clear HX HXR HB
  have HXR := HXR3
  have HB := HB3
  clear HXR3 HB3 hb3
  have hz3 : w.heap.size + 1 < w3.heap.size := HX3.out.lt
  have HAR := Lib.hid harr; clear harr
  cases rz with
  | error e =>
    have hne : (e == 0) = false := by simpa using nzL nzPair _ _ HRZ0.out
    simp only [rval_error, rerr_error, rmap] at HQ ⊢
    have HRF : Hid (RfR (fun b => w.heap.size + 1 < b) w3 ({ Rq.of 1 with options := [] }) ⟨A1, n1, c1⟩ .z .z .z .z) := Lib.hid ⟨goesArrI.mono (S' := fun b => w.heap.size + 1 < b) HAR.out fun b hb _ => by have hb : w2.heap.size ≤ b := hb; omega, ⟨Arr.nil, Arr.nil⟩, Arr.nil, Arr.nil⟩
    have f1 := HX3.out.fr 1
    have k1 := HX3.out.c 1 _ rfl
    have HX4 : Hid (Bx (fun b => b = w.heap.size + 1) (w3.setCell ⟨w.heap.size + 1, 1, none⟩ (.slice A1 n1 c1)) (w.heap.size + 1) (rfV ({ Rq.of 1 with options := [] }) ⟨A1, n1, c1⟩ .z .z .z .z)) := Lib.hid (HX3.out.put 1 _ (by show 1 < 22; decide))
    have HF4 : Hid (Fr (fun b => b = w.heap.size + 1) w3 (w3.setCell ⟨w.heap.size + 1, 1, none⟩ (.slice A1 n1 c1))) := Lib.hid (HX3.out.frPut 1 _)
    go_upto_region 26 with fail
    clear f1 k1 HX3
    obtain ⟨w4, hw_w4⟩ : ∃ w4, w4 = w3.setCell ⟨w.heap.size + 1, 1, none⟩ (.slice A1 n1 c1) := ⟨_, rfl⟩
    rw [← hw_w4] at HX4 HF4 ⊢
    clear hw_w4
    have HXR4 := Lib.hid (goesBx.keep HXR.out HF4.out.size fun b hb hlt => HF4.out.block b hlt (by rw [hb]; show ¬ w.heap.size = w.heap.size + 1; omega))
    have HB4 := Lib.hid (HB.out.trans (HF4.out.below HB.out.size fun b hb e => by have e : b = w.heap.size + 1 := e; omega))
    have HRF4 := Lib.hid (goesRf.keep HRF.out HF4.out.size fun b hb hlt => HF4.out.block b hlt (by have hb : w.heap.size + 1 < b := hb; show ¬ b = w.heap.size + 1; omega))
    clear HXR HB HRF HF4
    have HXR := HXR4
    have HB := HB4
    have HRF := HRF4
    have HX := HX4
    clear HXR4 HB4 HRF4 HX4
    have hz_w4 : w.heap.size + 1 < w4.heap.size := HX.out.lt
    have HE : Hid (r = .error e) := Lib.hid (HR.out.symm.trans ((gp1 bs).trans (bindR_err HRZ0.out)))
    go_wp2_with (first | (refine wpList_loadB HX.out (by rfl) 48 _ (by rfl) (by rfl) _ Try.underlying48 rfl (by kernel_rfl) ?_) | (refine wpList_storeB HXR.out (by rfl) 48 _ _ (by rfl) 0 (rfV ({ Rq.of 1 with options := [] }) ⟨A1, n1, c1⟩ .z .z .z .z) (by rfl) (by rfl) (by kernel_rfl) (by show 0 + 22 ≤ 22; decide) (by rfl) ?_; intro wz hxz hgz; have HXZ : Hid (Bx (fun b => b = w.heap.size) wz w.heap.size (rfV ({ Rq.of 1 with options := [] }) ⟨A1, n1, c1⟩ .z .z .z .z)) := Lib.hid hxz; have HBZ := Lib.hid (Below.grown1 HB.out hgz HB.out.size (Nat.le_refl _)); have HRZ := Lib.hid (goesRf.mono (goesRf.keep HRF.out hgz.size fun b hb hlt => hgz.block b hlt (fun e => by injection e with e; have hb : w.heap.size + 1 < b := hb; omega)) (S' := fun b => w.heap.size ≤ b) fun b hb _ => by have hb : w.heap.size + 1 < b := hb; omega); clear hxz hgz))
    refine bodyPost_ret (results_box3 (vs := rfV ({ Rq.of 1 with options := [] }) ⟨A1, n1, c1⟩ .z .z .z .z) rfl HXZ.out (by rfl) (by rfl) (by rfl) _ Try.underlying48 rfl (by kernel_rfl)) rfl ?_
    exact partsP_err HE.out _ _ _ _ _ _ _ HRZ.out HBZ.out
  | ok p =>
    obtain ⟨y, rest⟩ := p
    simp only [rval_ok, rerr_ok, rmap] at HQ ⊢
    have HRF : Hid (RfR (fun b => w.heap.size + 1 < b) w3 ({ Rq.of 1 with options := y }) ⟨A1, n1, c1⟩ .z .z .z .z) := Lib.hid ⟨goesArrI.mono (S' := fun b => w.heap.size + 1 < b) HAR.out fun b hb _ => by have hb : w2.heap.size ≤ b := hb; omega, ⟨Arr.nil, Arr.nil⟩, Arr.nil, Arr.nil⟩
    have f1 := HX3.out.fr 1
    have k1 := HX3.out.c 1 _ rfl
    have HX4 : Hid (Bx (fun b => b = w.heap.size + 1) (w3.setCell ⟨w.heap.size + 1, 1, none⟩ (.slice A1 n1 c1)) (w.heap.size + 1) (rfV ({ Rq.of 1 with options := y }) ⟨A1, n1, c1⟩ .z .z .z .z)) := Lib.hid (HX3.out.put 1 _ (by show 1 < 22; decide))
    have HF4 : Hid (Fr (fun b => b = w.heap.size + 1) w3 (w3.setCell ⟨w.heap.size + 1, 1, none⟩ (.slice A1 n1 c1))) := Lib.hid (HX3.out.frPut 1 _)
    go_upto_region 26 with fail
    clear f1 k1 HX3
    obtain ⟨w4, hw_w4⟩ : ∃ w4, w4 = w3.setCell ⟨w.heap.size + 1, 1, none⟩ (.slice A1 n1 c1) := ⟨_, rfl⟩
    rw [← hw_w4] at HX4 HF4 ⊢
    clear hw_w4
    have HXR4 := Lib.hid (goesBx.keep HXR.out HF4.out.size fun b hb hlt => HF4.out.block b hlt (by rw [hb]; show ¬ w.heap.size = w.heap.size + 1; omega))
    have HB4 := Lib.hid (HB.out.trans (HF4.out.below HB.out.size fun b hb e => by have e : b = w.heap.size + 1 := e; omega))
    have HRF4 := Lib.hid (goesRf.keep HRF.out HF4.out.size fun b hb hlt => HF4.out.block b hlt (by have hb : w.heap.size + 1 < b := hb; show ¬ b = w.heap.size + 1; omega))
    clear HXR HB HRF HF4
    have HXR := HXR4
    have HB := HB4
    have HRF := HRF4
    have HX := HX4
    clear HXR4 HB4 HRF4 HX4
    have hz_w4 : w.heap.size + 1 < w4.heap.size := HX.out.lt
    have HE : Hid (r = .ok ({ Rq.of 1 with options := y }, rest)) := Lib.hid (HR.out.symm.trans ((gp1 bs).trans (bindR_ok HRZ0.out)))
    go_wp2_with (first | (refine wpList_loadB HX.out (by rfl) 48 _ (by rfl) (by rfl) _ Try.underlying48 rfl (by kernel_rfl) ?_) | (refine wpList_storeB HXR.out (by rfl) 48 _ _ (by rfl) 0 (rfV ({ Rq.of 1 with options := y }) ⟨A1, n1, c1⟩ .z .z .z .z) (by rfl) (by rfl) (by kernel_rfl) (by show 0 + 22 ≤ 22; decide) (by rfl) ?_; intro wz hxz hgz; have HXZ : Hid (Bx (fun b => b = w.heap.size) wz w.heap.size (rfV ({ Rq.of 1 with options := y }) ⟨A1, n1, c1⟩ .z .z .z .z)) := Lib.hid hxz; have HBZ := Lib.hid (Below.grown1 HB.out hgz HB.out.size (Nat.le_refl _)); have HRZ := Lib.hid (goesRf.mono (goesRf.keep HRF.out hgz.size fun b hb hlt => hgz.block b hlt (fun e => by injection e with e; have hb : w.heap.size + 1 < b := hb; omega)) (S' := fun b => w.heap.size ≤ b) fun b hb _ => by have hb : w.heap.size + 1 < b := hb; omega); clear hxz hgz))
    refine bodyPost_ret (results_box3 (vs := rfV ({ Rq.of 1 with options := y }) ⟨A1, n1, c1⟩ .z .z .z .z) rfl HXZ.out (by rfl) (by rfl) (by rfl) _ Try.underlying48 rfl (by kernel_rfl)) rfl ?_
    exact partsP_ok HE.out _ _ _ _ _ _ HQ.out.le HQ.out.drop HRZ.out HBZ.out
set_option maxHeartbeats 8000000 in
set_option maxRecDepth 100000 in
theorem rparts8_11 {S : Nat → Prop} {A : Option Addr} {m c : Nat} {bs : B} {w : World} (hs : Sl S w A m c bs) (hm : m ≤ 140737488355328) (r : Res Rq) (hr : getParts 11 bs = r) :
    Calls Try.prog 48 #[.int .u8 11, .slice A m c] w fun e w' => PartsP w bs r e w' := by
  have HS := Lib.hid hs.lt
  have hlb := Lib.hid hs.len
  have hcp := hs.cap
  have hcm := hs.capMax
  clear hs
  have HR := Lib.hid hr; clear hr
  have hzm : 0 ≤ m := Nat.zero_le _
  go_enter Try.func48, Try.ntmps48
  go_upto_region 2 with (first | (refine wpList_built (by rfl) 48 _ (by rfl) #[.int .u8 11, .slice none 0 0, .string ⟨#[]⟩, .string ⟨#[]⟩, .int .u16 0, .slice none 0 0, .slice none 0 0, .bool false, .bool false, .int .i32 0, .bool false, .int .i64 0, .string ⟨#[]⟩, .bool false, .int .u16 0, .bool false, .int .i64 0, .slice none 0 0, .int .i64 0, .string ⟨#[]⟩, .int .u8 0, .slice none 0 0] (by kernel_rfl) ?_) | (refine wpList_store_newB (by rfl) 48 _ _ (by rfl) _ _ _ _ (by rfl) (by rfl) (by simp) (by rfl) (by kernel_rfl) (by rfl) (by rfl) ?_; intro w2 hb2 hz2 hx2; rw [World.size_alloc] at hx2; have HX2 : Hid (Bx (fun b => b = w.heap.size + 1) w2 (w.heap.size + 1) (rfV (Rq.of 11) .z .z .z .z .z)) := Lib.hid hx2; have HXR2 : Hid (Bx (fun b => b = w.heap.size) w2 w.heap.size zeroR) := Lib.hid (goesBx.after (Bx.alloc w #[.int .u8 0, .slice none 0 0, .string ⟨#[]⟩, .string ⟨#[]⟩, .int .u16 0, .slice none 0 0, .slice none 0 0, .bool false, .bool false, .int .i32 0, .bool false, .int .i64 0, .string ⟨#[]⟩, .bool false, .int .u16 0, .bool false, .int .i64 0, .slice none 0 0, .int .i64 0, .string ⟨#[]⟩, .int .u8 0, .slice none 0 0] 48 (S := fun b => b = w.heap.size) rfl rfl) hb2); have HB2 := Lib.hid (((Below.refl w.heap.size w).alloc (Nat.le_refl _) (.cells #[.int .u8 0, .slice none 0 0, .string ⟨#[]⟩, .string ⟨#[]⟩, .int .u16 0, .slice none 0 0, .slice none 0 0, .bool false, .bool false, .int .i32 0, .bool false, .int .i64 0, .string ⟨#[]⟩, .bool false, .int .u16 0, .bool false, .int .i64 0, .slice none 0 0, .int .i64 0, .string ⟨#[]⟩, .int .u8 0, .slice none 0 0] 48)).trans (hb2.mono (by simp))); clear hb2 hz2 hx2))
  have hz2 : w.heap.size + 1 < w2.heap.size := HX2.out.lt
  have HX := HX2; have HXR := HXR2; have HB := HB2; clear HX2 HXR2 HB2
  obtain ⟨rz, hrz⟩ : ∃ z, getTexts bs = z := ⟨_, rfl⟩
  have HRZ0 := Lib.hid hrz; clear hrz
  go_wp2_with fail
  refine (rgeti0_any (a := 0) (HS.out.fin HB.out) hm hzm (rmap (List.map .ofText) rz) (by rw [List.drop_zero, get_texts, HRZ0.out])).mono ?_
  rintro e w3 ⟨A1, n1, c1, q, rfl, harr, hq, hb3⟩
  have HQ := Lib.hid hq; clear hq
  have HX3 := Lib.hid (goesBx.after HX.out hb3)
  have HXR3 := Lib.hid (goesBx.after HXR.out hb3)
  have HB3 := Lib.hid (HB.out.trans (hb3.mono HB.out.size))
  clear HX HXR HB
  have HXR := HXR3
  have HB := HB3
  clear HXR3 HB3 hb3
  have hz3 : w.heap.size + 1 < w3.heap.size := HX3.out.lt
  have HAR := Lib.hid harr; clear harr
  cases rz with
  | error e =>
    have hne : (e == 0) = false := by simpa using nzL nzText _ _ HRZ0.out
    simp only [rval_error, rerr_error, rmap] at HQ ⊢
    have HRF : Hid (RfR (fun b => w.heap.size + 1 < b) w3 ({ Rq.of 11 with events := [] }) .z .z .z ⟨A1, n1, c1⟩ .z) := Lib.hid ⟨Arr.nil, ⟨Arr.nil, Arr.nil⟩, goesArrI.mono (S' := fun b => w.heap.size + 1 < b) HAR.out fun b hb _ => by have hb : w2.heap.size ≤ b := hb; omega, Arr.nil⟩
    have f1 := HX3.out.fr 17
    have k1 := HX3.out.c 17 _ rfl
    have HX4 : Hid (Bx (fun b => b = w.heap.size + 1) (w3.setCell ⟨w.heap.size + 1, 17, none⟩ (.slice A1 n1 c1)) (w.heap.size + 1) (rfV ({ Rq.of 11 with events := [] }) .z .z .z ⟨A1, n1, c1⟩ .z)) := Lib.hid (HX3.out.put 17 _ (by show 17 < 22; decide))
    have HF4 : Hid (Fr (fun b => b = w.heap.size + 1) w3 (w3.setCell ⟨w.heap.size + 1, 17, none⟩ (.slice A1 n1 c1))) := Lib.hid (HX3.out.frPut 17 _)
    go_upto_region 26 with fail
    clear f1 k1 HX3
    obtain ⟨w4, hw_w4⟩ : ∃ w4, w4 = w3.setCell ⟨w.heap.size + 1, 17, none⟩ (.slice A1 n1 c1) := ⟨_, rfl⟩
    rw [← hw_w4] at HX4 HF4 ⊢
    clear hw_w4
    have HXR4 := Lib.hid (goesBx.keep HXR.out HF4.out.size fun b hb hlt => HF4.out.block b hlt (by rw [hb]; show ¬ w.heap.size = w.heap.size + 1; omega))
    have HB4 := Lib.hid (HB.out.trans (HF4.out.below HB.out.size fun b hb e => by have e : b = w.heap.size + 1 := e; omega))
    have HRF4 := Lib.hid (goesRf.keep HRF.out HF4.out.size fun b hb hlt => HF4.out.block b hlt (by have hb : w.heap.size + 1 < b := hb; show ¬ b = w.heap.size + 1; omega))
    clear HXR HB HRF HF4
    have HXR := HXR4
    have HB := HB4
    have HRF := HRF4
    have HX := HX4
    clear HXR4 HB4 HRF4 HX4
    have hz_w4 : w.heap.size + 1 < w4.heap.size := HX.out.lt
    have HE : Hid (r = .error e) := Lib.hid (HR.out.symm.trans ((gp11 bs).trans (bindR_err HRZ0.out)))
    go_wp2_with (first | (refine wpList_loadB HX.out (by rfl) 48 _ (by rfl) (by rfl) _ Try.underlying48 rfl (by kernel_rfl) ?_) | (refine wpList_storeB HXR.out (by rfl) 48 _ _ (by rfl) 0 (rfV ({ Rq.of 11 with events := [] }) .z .z .z ⟨A1, n1, c1⟩ .z) (by rfl) (by rfl) (by kernel_rfl) (by show 0 + 22 ≤ 22; decide) (by rfl) ?_; intro wz hxz hgz; have HXZ : Hid (Bx (fun b => b = w.heap.size) wz w.heap.size (rfV ({ Rq.of 11 with events := [] }) .z .z .z ⟨A1, n1, c1⟩ .z)) := Lib.hid hxz; have HBZ := Lib.hid (Below.grown1 HB.out hgz HB.out.size (Nat.le_refl _)); have HRZ := Lib.hid (goesRf.mono (goesRf.keep HRF.out hgz.size fun b hb hlt => hgz.block b hlt (fun e => by injection e with e; have hb : w.heap.size + 1 < b := hb; omega)) (S' := fun b => w.heap.size ≤ b) fun b hb _ => by have hb : w.heap.size + 1 < b := hb; omega); clear hxz hgz))
    refine bodyPost_ret (results_box3 (vs := rfV ({ Rq.of 11 with events := [] }) .z .z .z ⟨A1, n1, c1⟩ .z) rfl HXZ.out (by rfl) (by rfl) (by rfl) _ Try.underlying48 rfl (by kernel_rfl)) rfl ?_
    exact partsP_err HE.out _ _ _ _ _ _ _ HRZ.out HBZ.out
  | ok p =>
    obtain ⟨y, rest⟩ := p
    simp only [rval_ok, rerr_ok, rmap] at HQ ⊢
    have HRF : Hid (RfR (fun b => w.heap.size + 1 < b) w3 ({ Rq.of 11 with events := y }) .z .z .z ⟨A1, n1, c1⟩ .z) := Lib.hid ⟨Arr.nil, ⟨Arr.nil, Arr.nil⟩, goesArrI.mono (S' := fun b => w.heap.size + 1 < b) HAR.out fun b hb _ => by have hb : w2.heap.size ≤ b := hb; omega, Arr.nil⟩
    have f1 := HX3.out.fr 17
    have k1 := HX3.out.c 17 _ rfl
    have HX4 : Hid (Bx (fun b => b = w.heap.size + 1) (w3.setCell ⟨w.heap.size + 1, 17, none⟩ (.slice A1 n1 c1)) (w.heap.size + 1) (rfV ({ Rq.of 11 with events := y }) .z .z .z ⟨A1, n1, c1⟩ .z)) := Lib.hid (HX3.out.put 17 _ (by show 17 < 22; decide))
    have HF4 : Hid (Fr (fun b => b = w.heap.size + 1) w3 (w3.setCell ⟨w.heap.size + 1, 17, none⟩ (.slice A1 n1 c1))) := Lib.hid (HX3.out.frPut 17 _)
    go_upto_region 26 with fail
    clear f1 k1 HX3
    obtain ⟨w4, hw_w4⟩ : ∃ w4, w4 = w3.setCell ⟨w.heap.size + 1, 17, none⟩ (.slice A1 n1 c1) := ⟨_, rfl⟩
    rw [← hw_w4] at HX4 HF4 ⊢
    clear hw_w4
    have HXR4 := Lib.hid (goesBx.keep HXR.out HF4.out.size fun b hb hlt => HF4.out.block b hlt (by rw [hb]; show ¬ w.heap.size = w.heap.size + 1; omega))
    have HB4 := Lib.hid (HB.out.trans (HF4.out.below HB.out.size fun b hb e => by have e : b = w.heap.size + 1 := e; omega))
    have HRF4 := Lib.hid (goesRf.keep HRF.out HF4.out.size fun b hb hlt => HF4.out.block b hlt (by have hb : w.heap.size + 1 < b := hb; show ¬ b = w.heap.size + 1; omega))
    clear HXR HB HRF HF4
    have HXR := HXR4
    have HB := HB4
    have HRF := HRF4
    have HX := HX4
    clear HXR4 HB4 HRF4 HX4
    have hz_w4 : w.heap.size + 1 < w4.heap.size := HX.out.lt
    have HE : Hid (r = .ok ({ Rq.of 11 with events := y }, rest)) := Lib.hid (HR.out.symm.trans ((gp11 bs).trans (bindR_ok HRZ0.out)))
    go_wp2_with (first | (refine wpList_loadB HX.out (by rfl) 48 _ (by rfl) (by rfl) _ Try.underlying48 rfl (by kernel_rfl) ?_) | (refine wpList_storeB HXR.out (by rfl) 48 _ _ (by rfl) 0 (rfV ({ Rq.of 11 with events := y }) .z .z .z ⟨A1, n1, c1⟩ .z) (by rfl) (by rfl) (by kernel_rfl) (by show 0 + 22 ≤ 22; decide) (by rfl) ?_; intro wz hxz hgz; have HXZ : Hid (Bx (fun b => b = w.heap.size) wz w.heap.size (rfV ({ Rq.of 11 with events := y }) .z .z .z ⟨A1, n1, c1⟩ .z)) := Lib.hid hxz; have HBZ := Lib.hid (Below.grown1 HB.out hgz HB.out.size (Nat.le_refl _)); have HRZ := Lib.hid (goesRf.mono (goesRf.keep HRF.out hgz.size fun b hb hlt => hgz.block b hlt (fun e => by injection e with e; have hb : w.heap.size + 1 < b := hb; omega)) (S' := fun b => w.heap.size ≤ b) fun b hb _ => by have hb : w.heap.size + 1 < b := hb; omega); clear hxz hgz))
    refine bodyPost_ret (results_box3 (vs := rfV ({ Rq.of 11 with events := y }) .z .z .z ⟨A1, n1, c1⟩ .z) rfl HXZ.out (by rfl) (by rfl) (by rfl) _ Try.underlying48 rfl (by kernel_rfl)) rfl ?_
    exact partsP_ok HE.out _ _ _ _ _ _ HQ.out.le HQ.out.drop HRZ.out HBZ.out
set_option maxHeartbeats 8000000 in
set_option maxRecDepth 100000 in
theorem rparts8_9 {S : Nat → Prop} {A : Option Addr} {m c : Nat} {bs : B} {w : World} (hs : Sl S w A m c bs) (hm : m ≤ 140737488355328) (r : Res Rq) (hr : getParts 9 bs = r) :
    Calls Try.prog 48 #[.int .u8 9, .slice A m c] w fun e w' => PartsP w bs r e w' := by
  have HS := Lib.hid hs.lt
  have hlb := Lib.hid hs.len
  have hcp := hs.cap
  have hcm := hs.capMax
  clear hs
  have HR := Lib.hid hr; clear hr
  have hzm : 0 ≤ m := Nat.zero_le _
  go_enter Try.func48, Try.ntmps48
  go_upto_region 2 with (first | (refine wpList_built (by rfl) 48 _ (by rfl) #[.int .u8 9, .slice none 0 0, .string ⟨#[]⟩, .string ⟨#[]⟩, .int .u16 0, .slice none 0 0, .slice none 0 0, .bool false, .bool false, .int .i32 0, .bool false, .int .i64 0, .string ⟨#[]⟩, .bool false, .int .u16 0, .bool false, .int .i64 0, .slice none 0 0, .int .i64 0, .string ⟨#[]⟩, .int .u8 0, .slice none 0 0] (by kernel_rfl) ?_) | (refine wpList_store_newB (by rfl) 48 _ _ (by rfl) _ _ _ _ (by rfl) (by rfl) (by simp) (by rfl) (by kernel_rfl) (by rfl) (by rfl) ?_; intro w2 hb2 hz2 hx2; rw [World.size_alloc] at hx2; have HX2 : Hid (Bx (fun b => b = w.heap.size + 1) w2 (w.heap.size + 1) (rfV (Rq.of 9) .z .z .z .z .z)) := Lib.hid hx2; have HXR2 : Hid (Bx (fun b => b = w.heap.size) w2 w.heap.size zeroR) := Lib.hid (goesBx.after (Bx.alloc w #[.int .u8 0, .slice none 0 0, .string ⟨#[]⟩, .string ⟨#[]⟩, .int .u16 0, .slice none 0 0, .slice none 0 0, .bool false, .bool false, .int .i32 0, .bool false, .int .i64 0, .string ⟨#[]⟩, .bool false, .int .u16 0, .bool false, .int .i64 0, .slice none 0 0, .int .i64 0, .string ⟨#[]⟩, .int .u8 0, .slice none 0 0] 48 (S := fun b => b = w.heap.size) rfl rfl) hb2); have HB2 := Lib.hid (((Below.refl w.heap.size w).alloc (Nat.le_refl _) (.cells #[.int .u8 0, .slice none 0 0, .string ⟨#[]⟩, .string ⟨#[]⟩, .int .u16 0, .slice none 0 0, .slice none 0 0, .bool false, .bool false, .int .i32 0, .bool false, .int .i64 0, .string ⟨#[]⟩, .bool false, .int .u16 0, .bool false, .int .i64 0, .slice none 0 0, .int .i64 0, .string ⟨#[]⟩, .int .u8 0, .slice none 0 0] 48)).trans (hb2.mono (by simp))); clear hb2 hz2 hx2))
  have hz2 : w.heap.size + 1 < w2.heap.size := HX2.out.lt
  have HX := HX2; have HXR := HXR2; have HB := HB2; clear HX2 HXR2 HB2
  obtain ⟨rz, hrz⟩ : ∃ z, getLong bs = z := ⟨_, rfl⟩
  have HRZ0 := Lib.hid hrz; clear hrz
  go_wp2_with fail
  refine (rgetLong_any (a := 0) (HS.out.fin HB.out) hm hzm rz (by rw [List.drop_zero, HRZ0.out])).mono ?_
  rintro e w3 ⟨q, rfl, hq, hb3⟩
  have HQ := Lib.hid hq; clear hq
  have HX3 := Lib.hid (goesBx.after HX.out hb3)
  have HXR3 := Lib.hid (goesBx.after HXR.out hb3)
  have HB3 := Lib.hid (HB.out.trans (hb3.mono HB.out.size))
  clear HX HXR HB
  have HXR := HXR3
  have HB := HB3
  clear HXR3 HB3 hb3
  have hz3 : w.heap.size + 1 < w3.heap.size := HX3.out.lt
  cases rz with
  | error e =>
    have hne : (e == 0) = false := by simpa using nzLong _ _ HRZ0.out
    simp only [rval_error, rerr_error]
    have HRF : Hid (RfR (fun b => w.heap.size + 1 < b) w3 ({ Rq.of 9 with text := [] }) .z .z .z .z .z) := Lib.hid (⟨Arr.nil, ⟨Arr.nil, Arr.nil⟩, Arr.nil, Arr.nil⟩ : RfR _ _ _ .z .z .z .z .z)
    have f1 := HX3.out.fr 2
    have k1 := HX3.out.c 2 _ rfl
    have HX4 : Hid (Bx (fun b => b = w.heap.size + 1) (w3.setCell ⟨w.heap.size + 1, 2, none⟩ (.string (str ([] : B)))) (w.heap.size + 1) (rfV ({ Rq.of 9 with text := [] }) .z .z .z .z .z)) := Lib.hid (HX3.out.put 2 _ (by show 2 < 22; decide))
    have HF4 : Hid (Fr (fun b => b = w.heap.size + 1) w3 (w3.setCell ⟨w.heap.size + 1, 2, none⟩ (.string (str ([] : B))))) := Lib.hid (HX3.out.frPut 2 _)
    go_upto_region 26 with fail
    clear f1 k1 HX3
    obtain ⟨w4, hw_w4⟩ : ∃ w4, w4 = w3.setCell ⟨w.heap.size + 1, 2, none⟩ (.string (str ([] : B))) := ⟨_, rfl⟩
    rw [← hw_w4] at HX4 HF4 ⊢
    clear hw_w4
    have HXR4 := Lib.hid (goesBx.keep HXR.out HF4.out.size fun b hb hlt => HF4.out.block b hlt (by rw [hb]; show ¬ w.heap.size = w.heap.size + 1; omega))
    have HB4 := Lib.hid (HB.out.trans (HF4.out.below HB.out.size fun b hb e => by have e : b = w.heap.size + 1 := e; omega))
    have HRF4 := Lib.hid (goesRf.keep HRF.out HF4.out.size fun b hb hlt => HF4.out.block b hlt (by have hb : w.heap.size + 1 < b := hb; show ¬ b = w.heap.size + 1; omega))
    clear HXR HB HRF HF4
    have HXR := HXR4
    have HB := HB4
    have HRF := HRF4
    have HX := HX4
    clear HXR4 HB4 HRF4 HX4
    have hz_w4 : w.heap.size + 1 < w4.heap.size := HX.out.lt
    have HE : Hid (r = .error e) := Lib.hid (HR.out.symm.trans ((gp9 bs).trans (bindR_err HRZ0.out)))
    go_wp2_with (first | (refine wpList_loadB HX.out (by rfl) 48 _ (by rfl) (by rfl) _ Try.underlying48 rfl (by kernel_rfl) ?_) | (refine wpList_storeB HXR.out (by rfl) 48 _ _ (by rfl) 0 (rfV ({ Rq.of 9 with text := [] }) .z .z .z .z .z) (by rfl) (by rfl) (by kernel_rfl) (by show 0 + 22 ≤ 22; decide) (by rfl) ?_; intro wz hxz hgz; have HXZ : Hid (Bx (fun b => b = w.heap.size) wz w.heap.size (rfV ({ Rq.of 9 with text := [] }) .z .z .z .z .z)) := Lib.hid hxz; have HBZ := Lib.hid (Below.grown1 HB.out hgz HB.out.size (Nat.le_refl _)); have HRZ := Lib.hid (goesRf.mono (goesRf.keep HRF.out hgz.size fun b hb hlt => hgz.block b hlt (fun e => by injection e with e; have hb : w.heap.size + 1 < b := hb; omega)) (S' := fun b => w.heap.size ≤ b) fun b hb _ => by have hb : w.heap.size + 1 < b := hb; omega); clear hxz hgz))
    refine bodyPost_ret (results_box3 (vs := rfV ({ Rq.of 9 with text := [] }) .z .z .z .z .z) rfl HXZ.out (by rfl) (by rfl) (by rfl) _ Try.underlying48 rfl (by kernel_rfl)) rfl ?_
    exact partsP_err HE.out _ _ _ _ _ _ _ HRZ.out HBZ.out
  | ok p =>
    obtain ⟨y, rest⟩ := p
    simp only [rval_ok, rerr_ok]
    have HRF : Hid (RfR (fun b => w.heap.size + 1 < b) w3 ({ Rq.of 9 with text := y }) .z .z .z .z .z) := Lib.hid (⟨Arr.nil, ⟨Arr.nil, Arr.nil⟩, Arr.nil, Arr.nil⟩ : RfR _ _ _ .z .z .z .z .z)
    have f1 := HX3.out.fr 2
    have k1 := HX3.out.c 2 _ rfl
    have HX4 : Hid (Bx (fun b => b = w.heap.size + 1) (w3.setCell ⟨w.heap.size + 1, 2, none⟩ (.string (str y))) (w.heap.size + 1) (rfV ({ Rq.of 9 with text := y }) .z .z .z .z .z)) := Lib.hid (HX3.out.put 2 _ (by show 2 < 22; decide))
    have HF4 : Hid (Fr (fun b => b = w.heap.size + 1) w3 (w3.setCell ⟨w.heap.size + 1, 2, none⟩ (.string (str y)))) := Lib.hid (HX3.out.frPut 2 _)
    go_upto_region 26 with fail
    clear f1 k1 HX3
    obtain ⟨w4, hw_w4⟩ : ∃ w4, w4 = w3.setCell ⟨w.heap.size + 1, 2, none⟩ (.string (str y)) := ⟨_, rfl⟩
    rw [← hw_w4] at HX4 HF4 ⊢
    clear hw_w4
    have HXR4 := Lib.hid (goesBx.keep HXR.out HF4.out.size fun b hb hlt => HF4.out.block b hlt (by rw [hb]; show ¬ w.heap.size = w.heap.size + 1; omega))
    have HB4 := Lib.hid (HB.out.trans (HF4.out.below HB.out.size fun b hb e => by have e : b = w.heap.size + 1 := e; omega))
    have HRF4 := Lib.hid (goesRf.keep HRF.out HF4.out.size fun b hb hlt => HF4.out.block b hlt (by have hb : w.heap.size + 1 < b := hb; show ¬ b = w.heap.size + 1; omega))
    clear HXR HB HRF HF4
    have HXR := HXR4
    have HB := HB4
    have HRF := HRF4
    have HX := HX4
    clear HXR4 HB4 HRF4 HX4
    have hz_w4 : w.heap.size + 1 < w4.heap.size := HX.out.lt
    have HE : Hid (r = .ok ({ Rq.of 9 with text := y }, rest)) := Lib.hid (HR.out.symm.trans ((gp9 bs).trans (bindR_ok HRZ0.out)))
    go_wp2_with (first | (refine wpList_loadB HX.out (by rfl) 48 _ (by rfl) (by rfl) _ Try.underlying48 rfl (by kernel_rfl) ?_) | (refine wpList_storeB HXR.out (by rfl) 48 _ _ (by rfl) 0 (rfV ({ Rq.of 9 with text := y }) .z .z .z .z .z) (by rfl) (by rfl) (by kernel_rfl) (by show 0 + 22 ≤ 22; decide) (by rfl) ?_; intro wz hxz hgz; have HXZ : Hid (Bx (fun b => b = w.heap.size) wz w.heap.size (rfV ({ Rq.of 9 with text := y }) .z .z .z .z .z)) := Lib.hid hxz; have HBZ := Lib.hid (Below.grown1 HB.out hgz HB.out.size (Nat.le_refl _)); have HRZ := Lib.hid (goesRf.mono (goesRf.keep HRF.out hgz.size fun b hb hlt => hgz.block b hlt (fun e => by injection e with e; have hb : w.heap.size + 1 < b := hb; omega)) (S' := fun b => w.heap.size ≤ b) fun b hb _ => by have hb : w.heap.size + 1 < b := hb; omega); clear hxz hgz))
    refine bodyPost_ret (results_box3 (vs := rfV ({ Rq.of 9 with text := y }) .z .z .z .z .z) rfl HXZ.out (by rfl) (by rfl) (by rfl) _ Try.underlying48 rfl (by kernel_rfl)) rfl ?_
    exact partsP_ok HE.out _ _ _ _ _ _ HQ.out.le HQ.out.drop HRZ.out HBZ.out
set_option maxHeartbeats 8000000 in
set_option maxRecDepth 100000 in
theorem rparts8_15 {S : Nat → Prop} {A : Option Addr} {m c : Nat} {bs : B} {w : World} (hs : Sl S w A m c bs) (hm : m ≤ 140737488355328) (r : Res Rq) (hr : getParts 15 bs = r) :
    Calls Try.prog 48 #[.int .u8 15, .slice A m c] w fun e w' => PartsP w bs r e w' := by
  have HS := Lib.hid hs.lt
  have hlb := Lib.hid hs.len
  have hcp := hs.cap
  have hcm := hs.capMax
  clear hs
  have HR := Lib.hid hr; clear hr
  have hzm : 0 ≤ m := Nat.zero_le _
  go_enter Try.func48, Try.ntmps48
  go_upto_region 2 with (first | (refine wpList_built (by rfl) 48 _ (by rfl) #[.int .u8 15, .slice none 0 0, .string ⟨#[]⟩, .string ⟨#[]⟩, .int .u16 0, .slice none 0 0, .slice none 0 0, .bool false, .bool false, .int .i32 0, .bool false, .int .i64 0, .string ⟨#[]⟩, .bool false, .int .u16 0, .bool false, .int .i64 0, .slice none 0 0, .int .i64 0, .string ⟨#[]⟩, .int .u8 0, .slice none 0 0] (by kernel_rfl) ?_) | (refine wpList_store_newB (by rfl) 48 _ _ (by rfl) _ _ _ _ (by rfl) (by rfl) (by simp) (by rfl) (by kernel_rfl) (by rfl) (by rfl) ?_; intro w2 hb2 hz2 hx2; rw [World.size_alloc] at hx2; have HX2 : Hid (Bx (fun b => b = w.heap.size + 1) w2 (w.heap.size + 1) (rfV (Rq.of 15) .z .z .z .z .z)) := Lib.hid hx2; have HXR2 : Hid (Bx (fun b => b = w.heap.size) w2 w.heap.size zeroR) := Lib.hid (goesBx.after (Bx.alloc w #[.int .u8 0, .slice none 0 0, .string ⟨#[]⟩, .string ⟨#[]⟩, .int .u16 0, .slice none 0 0, .slice none 0 0, .bool false, .bool false, .int .i32 0, .bool false, .int .i64 0, .string ⟨#[]⟩, .bool false, .int .u16 0, .bool false, .int .i64 0, .slice none 0 0, .int .i64 0, .string ⟨#[]⟩, .int .u8 0, .slice none 0 0] 48 (S := fun b => b = w.heap.size) rfl rfl) hb2); have HB2 := Lib.hid (((Below.refl w.heap.size w).alloc (Nat.le_refl _) (.cells #[.int .u8 0, .slice none 0 0, .string ⟨#[]⟩, .string ⟨#[]⟩, .int .u16 0, .slice none 0 0, .slice none 0 0, .bool false, .bool false, .int .i32 0, .bool false, .int .i64 0, .string ⟨#[]⟩, .bool false, .int .u16 0, .bool false, .int .i64 0, .slice none 0 0, .int .i64 0, .string ⟨#[]⟩, .int .u8 0, .slice none 0 0] 48)).trans (hb2.mono (by simp))); clear hb2 hz2 hx2))
  have hz2 : w.heap.size + 1 < w2.heap.size := HX2.out.lt
  have HX := HX2; have HXR := HXR2; have HB := HB2; clear HX2 HXR2 HB2
  obtain ⟨rz, hrz⟩ : ∃ z, getValue bs = z := ⟨_, rfl⟩
  have HRZ0 := Lib.hid hrz; clear hrz
  go_wp2_with fail
  refine (rgetValue_any (a := 0) (HS.out.fin HB.out) hm hzm rz (by rw [List.drop_zero, HRZ0.out])).mono ?_
  rintro e w3 ⟨q, rfl, hq, hb3⟩
  have HQ := Lib.hid hq; clear hq
  have HX3 := Lib.hid (goesBx.after HX.out hb3)
  have HXR3 := Lib.hid (goesBx.after HXR.out hb3)
  have HB3 := Lib.hid (HB.out.trans (hb3.mono HB.out.size))
  clear HX HXR HB
  have HXR := HXR3
  have HB := HB3
  clear HXR3 HB3 hb3
  have hz3 : w.heap.size + 1 < w3.heap.size := HX3.out.lt
  cases rz with
  | error e =>
    have hne : (e == 0) = false := by simpa using nzValue _ _ HRZ0.out
    simp only [rval_error, rerr_error]
    have HRF : Hid (RfR (fun b => w.heap.size + 1 < b) w3 ({ Rq.of 15 with token := Val.none }) .z .z .z .z .z) := Lib.hid (⟨Arr.nil, ⟨Arr.nil, Arr.nil⟩, Arr.nil, Arr.nil⟩ : RfR _ _ _ .z .z .z .z .z)
    go_upto_region 26 with (first | (refine wpList_storeB HX3.out (by rfl) 43 _ _ (by rfl) 18 [.int .i64 (Val.none).kind, .string (str (Val.none).bytes)] (by rfl) (by rfl) (by kernel_rfl) (by show 18 + 2 ≤ 22; decide) (by rfl) ?_; intro w4 hx4 hg4; have HX4 : Hid (Bx (fun b => b = w.heap.size + 1) w4 (w.heap.size + 1) (rfV ({ Rq.of 15 with token := Val.none }) .z .z .z .z .z)) := Lib.hid hx4; have HF4 : Hid (Fr (fun b => b = w.heap.size + 1) w3 w4) := Lib.hid (Fr.of_one hg4 rfl); clear hx4 hg4))
    have HXR4 := Lib.hid (goesBx.keep HXR.out HF4.out.size fun b hb hlt => HF4.out.block b hlt (by rw [hb]; show ¬ w.heap.size = w.heap.size + 1; omega))
    have HB4 := Lib.hid (HB.out.trans (HF4.out.below HB.out.size fun b hb e => by have e : b = w.heap.size + 1 := e; omega))
    have HRF4 := Lib.hid (goesRf.keep HRF.out HF4.out.size fun b hb hlt => HF4.out.block b hlt (by have hb : w.heap.size + 1 < b := hb; show ¬ b = w.heap.size + 1; omega))
    clear HXR HB HRF HF4
    have HXR := HXR4
    have HB := HB4
    have HRF := HRF4
    have HX := HX4
    clear HXR4 HB4 HRF4 HX4
    have hz_w4 : w.heap.size + 1 < w4.heap.size := HX.out.lt
    have HE : Hid (r = .error e) := Lib.hid (HR.out.symm.trans ((gp15 bs).trans (bindR_err HRZ0.out)))
    go_wp2_with (first | (refine wpList_loadB HX.out (by rfl) 48 _ (by rfl) (by rfl) _ Try.underlying48 rfl (by kernel_rfl) ?_) | (refine wpList_storeB HXR.out (by rfl) 48 _ _ (by rfl) 0 (rfV ({ Rq.of 15 with token := Val.none }) .z .z .z .z .z) (by rfl) (by rfl) (by kernel_rfl) (by show 0 + 22 ≤ 22; decide) (by rfl) ?_; intro wz hxz hgz; have HXZ : Hid (Bx (fun b => b = w.heap.size) wz w.heap.size (rfV ({ Rq.of 15 with token := Val.none }) .z .z .z .z .z)) := Lib.hid hxz; have HBZ := Lib.hid (Below.grown1 HB.out hgz HB.out.size (Nat.le_refl _)); have HRZ := Lib.hid (goesRf.mono (goesRf.keep HRF.out hgz.size fun b hb hlt => hgz.block b hlt (fun e => by injection e with e; have hb : w.heap.size + 1 < b := hb; omega)) (S' := fun b => w.heap.size ≤ b) fun b hb _ => by have hb : w.heap.size + 1 < b := hb; omega); clear hxz hgz))
    refine bodyPost_ret (results_box3 (vs := rfV ({ Rq.of 15 with token := Val.none }) .z .z .z .z .z) rfl HXZ.out (by rfl) (by rfl) (by rfl) _ Try.underlying48 rfl (by kernel_rfl)) rfl ?_
    exact partsP_err HE.out _ _ _ _ _ _ _ HRZ.out HBZ.out
  | ok p =>
    obtain ⟨y, rest⟩ := p
    simp only [rval_ok, rerr_ok]
    have HRF : Hid (RfR (fun b => w.heap.size + 1 < b) w3 ({ Rq.of 15 with token := y }) .z .z .z .z .z) := Lib.hid (⟨Arr.nil, ⟨Arr.nil, Arr.nil⟩, Arr.nil, Arr.nil⟩ : RfR _ _ _ .z .z .z .z .z)
    go_upto_region 26 with (first | (refine wpList_storeB HX3.out (by rfl) 43 _ _ (by rfl) 18 [.int .i64 (y).kind, .string (str (y).bytes)] (by rfl) (by rfl) (by kernel_rfl) (by show 18 + 2 ≤ 22; decide) (by rfl) ?_; intro w4 hx4 hg4; have HX4 : Hid (Bx (fun b => b = w.heap.size + 1) w4 (w.heap.size + 1) (rfV ({ Rq.of 15 with token := y }) .z .z .z .z .z)) := Lib.hid hx4; have HF4 : Hid (Fr (fun b => b = w.heap.size + 1) w3 w4) := Lib.hid (Fr.of_one hg4 rfl); clear hx4 hg4))
    have HXR4 := Lib.hid (goesBx.keep HXR.out HF4.out.size fun b hb hlt => HF4.out.block b hlt (by rw [hb]; show ¬ w.heap.size = w.heap.size + 1; omega))
    have HB4 := Lib.hid (HB.out.trans (HF4.out.below HB.out.size fun b hb e => by have e : b = w.heap.size + 1 := e; omega))
    have HRF4 := Lib.hid (goesRf.keep HRF.out HF4.out.size fun b hb hlt => HF4.out.block b hlt (by have hb : w.heap.size + 1 < b := hb; show ¬ b = w.heap.size + 1; omega))
    clear HXR HB HRF HF4
    have HXR := HXR4
    have HB := HB4
    have HRF := HRF4
    have HX := HX4
    clear HXR4 HB4 HRF4 HX4
    have hz_w4 : w.heap.size + 1 < w4.heap.size := HX.out.lt
    have HE : Hid (r = .ok ({ Rq.of 15 with token := y }, rest)) := Lib.hid (HR.out.symm.trans ((gp15 bs).trans (bindR_ok HRZ0.out)))
    go_wp2_with (first | (refine wpList_loadB HX.out (by rfl) 48 _ (by rfl) (by rfl) _ Try.underlying48 rfl (by kernel_rfl) ?_) | (refine wpList_storeB HXR.out (by rfl) 48 _ _ (by rfl) 0 (rfV ({ Rq.of 15 with token := y }) .z .z .z .z .z) (by rfl) (by rfl) (by kernel_rfl) (by show 0 + 22 ≤ 22; decide) (by rfl) ?_; intro wz hxz hgz; have HXZ : Hid (Bx (fun b => b = w.heap.size) wz w.heap.size (rfV ({ Rq.of 15 with token := y }) .z .z .z .z .z)) := Lib.hid hxz; have HBZ := Lib.hid (Below.grown1 HB.out hgz HB.out.size (Nat.le_refl _)); have HRZ := Lib.hid (goesRf.mono (goesRf.keep HRF.out hgz.size fun b hb hlt => hgz.block b hlt (fun e => by injection e with e; have hb : w.heap.size + 1 < b := hb; omega)) (S' := fun b => w.heap.size ≤ b) fun b hb _ => by have hb : w.heap.size + 1 < b := hb; omega); clear hxz hgz))
    refine bodyPost_ret (results_box3 (vs := rfV ({ Rq.of 15 with token := y }) .z .z .z .z .z) rfl HXZ.out (by rfl) (by rfl) (by rfl) _ Try.underlying48 rfl (by kernel_rfl)) rfl ?_
    exact partsP_ok HE.out _ _ _ _ _ _ HQ.out.le HQ.out.drop HRZ.out HBZ.out
set_option maxHeartbeats 8000000 in
set_option maxRecDepth 100000 in
theorem rparts8_7 {S : Nat → Prop} {A : Option Addr} {m c : Nat} {bs : B} {w : World} (hs : Sl S w A m c bs) (hm : m ≤ 140737488355328) (r : Res Rq) (hr : getParts 7 bs = r) :
    Calls Try.prog 48 #[.int .u8 7, .slice A m c] w fun e w' => PartsP w bs r e w' := by
  have HS := Lib.hid hs.lt
  have hlb := Lib.hid hs.len
  have hcp := hs.cap
  have hcm := hs.capMax
  clear hs
  have HR := Lib.hid hr; clear hr
  have hzm : 0 ≤ m := Nat.zero_le _
  go_enter Try.func48, Try.ntmps48
  go_upto_region 2 with (first | (refine wpList_built (by rfl) 48 _ (by rfl) #[.int .u8 7, .slice none 0 0, .string ⟨#[]⟩, .string ⟨#[]⟩, .int .u16 0, .slice none 0 0, .slice none 0 0, .bool false, .bool false, .int .i32 0, .bool false, .int .i64 0, .string ⟨#[]⟩, .bool false, .int .u16 0, .bool false, .int .i64 0, .slice none 0 0, .int .i64 0, .string ⟨#[]⟩, .int .u8 0, .slice none 0 0] (by kernel_rfl) ?_) | (refine wpList_store_newB (by rfl) 48 _ _ (by rfl) _ _ _ _ (by rfl) (by rfl) (by simp) (by rfl) (by kernel_rfl) (by rfl) (by rfl) ?_; intro w2 hb2 hz2 hx2; rw [World.size_alloc] at hx2; have HX2 : Hid (Bx (fun b => b = w.heap.size + 1) w2 (w.heap.size + 1) (rfV (Rq.of 7) .z .z .z .z .z)) := Lib.hid hx2; have HXR2 : Hid (Bx (fun b => b = w.heap.size) w2 w.heap.size zeroR) := Lib.hid (goesBx.after (Bx.alloc w #[.int .u8 0, .slice none 0 0, .string ⟨#[]⟩, .string ⟨#[]⟩, .int .u16 0, .slice none 0 0, .slice none 0 0, .bool false, .bool false, .int .i32 0, .bool false, .int .i64 0, .string ⟨#[]⟩, .bool false, .int .u16 0, .bool false, .int .i64 0, .slice none 0 0, .int .i64 0, .string ⟨#[]⟩, .int .u8 0, .slice none 0 0] 48 (S := fun b => b = w.heap.size) rfl rfl) hb2); have HB2 := Lib.hid (((Below.refl w.heap.size w).alloc (Nat.le_refl _) (.cells #[.int .u8 0, .slice none 0 0, .string ⟨#[]⟩, .string ⟨#[]⟩, .int .u16 0, .slice none 0 0, .slice none 0 0, .bool false, .bool false, .int .i32 0, .bool false, .int .i64 0, .string ⟨#[]⟩, .bool false, .int .u16 0, .bool false, .int .i64 0, .slice none 0 0, .int .i64 0, .string ⟨#[]⟩, .int .u8 0, .slice none 0 0] 48)).trans (hb2.mono (by simp))); clear hb2 hz2 hx2))
  have hz2 : w.heap.size + 1 < w2.heap.size := HX2.out.lt
  have HX := HX2; have HXR := HXR2; have HB := HB2; clear HX2 HXR2 HB2
  obtain ⟨rz, hrz⟩ : ∃ z, getLong bs = z := ⟨_, rfl⟩
  have HRZ0 := Lib.hid hrz; clear hrz
  go_wp2_with fail
  refine (rgetLong_any (a := 0) (HS.out.fin HB.out) hm hzm rz (by rw [List.drop_zero, HRZ0.out])).mono ?_
  rintro e w3 ⟨q, rfl, hq, hb3⟩
  have HQ := Lib.hid hq; clear hq
  have HX3 := Lib.hid (goesBx.after HX.out hb3)
  have HXR3 := Lib.hid (goesBx.after HXR.out hb3)
  have HB3 := Lib.hid (HB.out.trans (hb3.mono HB.out.size))
  clear HX HXR HB
  have HXR := HXR3
  have HB := HB3
  clear HXR3 HB3 hb3
  have hz3 : w.heap.size + 1 < w3.heap.size := HX3.out.lt
  cases rz with
  | error e =>
    have hne : (e == 0) = false := by simpa using nzLong _ _ HRZ0.out
    simp only [rval_error, rerr_error]
    have HRF : Hid (RfR (fun b => w.heap.size + 1 < b) w3 ({ Rq.of 7 with text := [] }) .z .z .z .z .z) := Lib.hid (⟨Arr.nil, ⟨Arr.nil, Arr.nil⟩, Arr.nil, Arr.nil⟩ : RfR _ _ _ .z .z .z .z .z)
    have f1 := HX3.out.fr 2
    have k1 := HX3.out.c 2 _ rfl
    have HX4 : Hid (Bx (fun b => b = w.heap.size + 1) (w3.setCell ⟨w.heap.size + 1, 2, none⟩ (.string (str ([] : B)))) (w.heap.size + 1) (rfV ({ Rq.of 7 with text := [] }) .z .z .z .z .z)) := Lib.hid (HX3.out.put 2 _ (by show 2 < 22; decide))
    have HF4 : Hid (Fr (fun b => b = w.heap.size + 1) w3 (w3.setCell ⟨w.heap.size + 1, 2, none⟩ (.string (str ([] : B))))) := Lib.hid (HX3.out.frPut 2 _)
    go_upto_region 26 with fail
    clear f1 k1 HX3
    obtain ⟨w4, hw_w4⟩ : ∃ w4, w4 = w3.setCell ⟨w.heap.size + 1, 2, none⟩ (.string (str ([] : B))) := ⟨_, rfl⟩
    rw [← hw_w4] at HX4 HF4 ⊢
    clear hw_w4
    have HXR4 := Lib.hid (goesBx.keep HXR.out HF4.out.size fun b hb hlt => HF4.out.block b hlt (by rw [hb]; show ¬ w.heap.size = w.heap.size + 1; omega))
    have HB4 := Lib.hid (HB.out.trans (HF4.out.below HB.out.size fun b hb e => by have e : b = w.heap.size + 1 := e; omega))
    have HRF4 := Lib.hid (goesRf.keep HRF.out HF4.out.size fun b hb hlt => HF4.out.block b hlt (by have hb : w.heap.size + 1 < b := hb; show ¬ b = w.heap.size + 1; omega))
    clear HXR HB HRF HF4
    have HXR := HXR4
    have HB := HB4
    have HRF := HRF4
    have HX := HX4
    clear HXR4 HB4 HRF4 HX4
    have hz_w4 : w.heap.size + 1 < w4.heap.size := HX.out.lt
    have HE : Hid (r = .error e) := Lib.hid (HR.out.symm.trans ((gp7 bs).trans (bindR_err HRZ0.out)))
    go_wp2_with (first | (refine wpList_loadB HX.out (by rfl) 48 _ (by rfl) (by rfl) _ Try.underlying48 rfl (by kernel_rfl) ?_) | (refine wpList_storeB HXR.out (by rfl) 48 _ _ (by rfl) 0 (rfV ({ Rq.of 7 with text := [] }) .z .z .z .z .z) (by rfl) (by rfl) (by kernel_rfl) (by show 0 + 22 ≤ 22; decide) (by rfl) ?_; intro wz hxz hgz; have HXZ : Hid (Bx (fun b => b = w.heap.size) wz w.heap.size (rfV ({ Rq.of 7 with text := [] }) .z .z .z .z .z)) := Lib.hid hxz; have HBZ := Lib.hid (Below.grown1 HB.out hgz HB.out.size (Nat.le_refl _)); have HRZ := Lib.hid (goesRf.mono (goesRf.keep HRF.out hgz.size fun b hb hlt => hgz.block b hlt (fun e => by injection e with e; have hb : w.heap.size + 1 < b := hb; omega)) (S' := fun b => w.heap.size ≤ b) fun b hb _ => by have hb : w.heap.size + 1 < b := hb; omega); clear hxz hgz))
    refine bodyPost_ret (results_box3 (vs := rfV ({ Rq.of 7 with text := [] }) .z .z .z .z .z) rfl HXZ.out (by rfl) (by rfl) (by rfl) _ Try.underlying48 rfl (by kernel_rfl)) rfl ?_
    exact partsP_err HE.out _ _ _ _ _ _ _ HRZ.out HBZ.out
  | ok p =>
    obtain ⟨y, rest⟩ := p
    simp only [rval_ok, rerr_ok]
    have HRF : Hid (RfR (fun b => w.heap.size + 1 < b) w3 ({ Rq.of 7 with text := y }) .z .z .z .z .z) := Lib.hid (⟨Arr.nil, ⟨Arr.nil, Arr.nil⟩, Arr.nil, Arr.nil⟩ : RfR _ _ _ .z .z .z .z .z)
    have f1 := HX3.out.fr 2
    have k1 := HX3.out.c 2 _ rfl
    have HX4 : Hid (Bx (fun b => b = w.heap.size + 1) (w3.setCell ⟨w.heap.size + 1, 2, none⟩ (.string (str y))) (w.heap.size + 1) (rfV ({ Rq.of 7 with text := y }) .z .z .z .z .z)) := Lib.hid (HX3.out.put 2 _ (by show 2 < 22; decide))
    have HF4 : Hid (Fr (fun b => b = w.heap.size + 1) w3 (w3.setCell ⟨w.heap.size + 1, 2, none⟩ (.string (str y)))) := Lib.hid (HX3.out.frPut 2 _)
    go_upto_region 26 with fail
    clear f1 k1 HX3
    obtain ⟨w4, hw_w4⟩ : ∃ w4, w4 = w3.setCell ⟨w.heap.size + 1, 2, none⟩ (.string (str y)) := ⟨_, rfl⟩
    rw [← hw_w4] at HX4 HF4 ⊢
    clear hw_w4
    have HXR4 := Lib.hid (goesBx.keep HXR.out HF4.out.size fun b hb hlt => HF4.out.block b hlt (by rw [hb]; show ¬ w.heap.size = w.heap.size + 1; omega))
    have HB4 := Lib.hid (HB.out.trans (HF4.out.below HB.out.size fun b hb e => by have e : b = w.heap.size + 1 := e; omega))
    have HRF4 := Lib.hid (goesRf.keep HRF.out HF4.out.size fun b hb hlt => HF4.out.block b hlt (by have hb : w.heap.size + 1 < b := hb; show ¬ b = w.heap.size + 1; omega))
    clear HXR HB HRF HF4
    have HXR := HXR4
    have HB := HB4
    have HRF := HRF4
    have HX := HX4
    clear HXR4 HB4 HRF4 HX4
    have hz_w4 : w.heap.size + 1 < w4.heap.size := HX.out.lt
    have HR2 : Hid (r = bindR (getRun false rest) fun p r => .ok ({ { Rq.of 7 with text := y } with run := p }, r)) := Lib.hid (HR.out.symm.trans ((gp7 bs).trans (bindR_ok HRZ0.out)))
    have hqm : q ≤ m := by have := HQ.out.le; have := hlb.out; omega
    obtain ⟨ru, hru⟩ : ∃ z, getRun false rest = z := ⟨_, rfl⟩
    have HRU := Lib.hid hru; clear hru
    go_wp2_with fail
    refine (rgetRun8_false (a := q) (HS.out.fin HB.out) hm hqm ru (by rw [HQ.out.drop]; exact HRU.out)).mono ?_
    rintro e w5 ⟨B1, u1, v1, B2, u2, v2, q5, rfl, hrr, hq5, hb5⟩
    have HQ5 := Lib.hid hq5; clear hq5
    have HRN := Lib.hid hrr; clear hrr
    have HX5 := Lib.hid (goesBx.after HX.out hb5)
    have HXR5 := Lib.hid (goesBx.after HXR.out hb5)
    have HB5 := Lib.hid (HB.out.trans (hb5.mono HB.out.size))
    have HRF5 := Lib.hid (goesRf.after HRF.out hb5)
    clear HX HXR HB HRF hb5
    have HXR := HXR5
    have HB := HB5
    clear HXR5 HB5
    have hz5 : w.heap.size + 1 < w5.heap.size := HX5.out.lt
    cases ru with
    | error e =>
      have hne : (e == 0) = false := by simpa using nzRun _ _ _ HRU.out
      simp only [rval_error, rerr_error] at HRN ⊢
      have HRF : Hid (RfR (fun b => w.heap.size + 1 < b) w5 ({ { Rq.of 7 with text := y } with run := Par.none }) .z ⟨B1, u1, v1⟩ ⟨B2, u2, v2⟩ .z .z) := Lib.hid ⟨HRF5.out.options, goesRunR.mono HRN.out fun b hb _ => by have hb : w4.heap.size ≤ b := hb; omega, HRF5.out.events, HRF5.out.all⟩
      go_upto_region 28 with (first | (refine wpList_storeB HX5.out (by rfl) 45 _ _ (by rfl) 4 (runV (Par.none) B1 u1 v1 B2 u2 v2) (by rfl) (by rfl) (by kernel_rfl) (by show 4 + 13 ≤ 22; decide) (by rfl) ?_; intro w6 hx6 hg6; have HX6 : Hid (Bx (fun b => b = w.heap.size + 1) w6 (w.heap.size + 1) (rfV ({ { Rq.of 7 with text := y } with run := Par.none }) .z ⟨B1, u1, v1⟩ ⟨B2, u2, v2⟩ .z .z)) := Lib.hid hx6; have HF6 : Hid (Fr (fun b => b = w.heap.size + 1) w5 w6) := Lib.hid (Fr.of_one hg6 rfl); clear hx6 hg6))
      clear HX5 HRF5
      have HXR6 := Lib.hid (goesBx.keep HXR.out HF6.out.size fun b hb hlt => HF6.out.block b hlt (by rw [hb]; show ¬ w.heap.size = w.heap.size + 1; omega))
      have HB6 := Lib.hid (HB.out.trans (HF6.out.below HB.out.size fun b hb e => by have e : b = w.heap.size + 1 := e; omega))
      have HRF6 := Lib.hid (goesRf.keep HRF.out HF6.out.size fun b hb hlt => HF6.out.block b hlt (by have hb : w.heap.size + 1 < b := hb; show ¬ b = w.heap.size + 1; omega))
      clear HXR HB HRF HF6
      have HXR := HXR6
      have HB := HB6
      have HRF := HRF6
      have HX := HX6
      clear HXR6 HB6 HRF6 HX6
      have hz_w6 : w.heap.size + 1 < w6.heap.size := HX.out.lt
      have HE : Hid (r = .error e) := Lib.hid (HR2.out.trans (bindR_err HRU.out))
      go_wp2_with (first | (refine wpList_loadB HX.out (by rfl) 48 _ (by rfl) (by rfl) _ Try.underlying48 rfl (by kernel_rfl) ?_) | (refine wpList_storeB HXR.out (by rfl) 48 _ _ (by rfl) 0 (rfV ({ { Rq.of 7 with text := y } with run := Par.none }) .z ⟨B1, u1, v1⟩ ⟨B2, u2, v2⟩ .z .z) (by rfl) (by rfl) (by kernel_rfl) (by show 0 + 22 ≤ 22; decide) (by rfl) ?_; intro wz hxz hgz; have HXZ : Hid (Bx (fun b => b = w.heap.size) wz w.heap.size (rfV ({ { Rq.of 7 with text := y } with run := Par.none }) .z ⟨B1, u1, v1⟩ ⟨B2, u2, v2⟩ .z .z)) := Lib.hid hxz; have HBZ := Lib.hid (Below.grown1 HB.out hgz HB.out.size (Nat.le_refl _)); have HRZ := Lib.hid (goesRf.mono (goesRf.keep HRF.out hgz.size fun b hb hlt => hgz.block b hlt (fun e => by injection e with e; have hb : w.heap.size + 1 < b := hb; omega)) (S' := fun b => w.heap.size ≤ b) fun b hb _ => by have hb : w.heap.size + 1 < b := hb; omega); clear hxz hgz))
      refine bodyPost_ret (results_box3 (vs := rfV ({ { Rq.of 7 with text := y } with run := Par.none }) .z ⟨B1, u1, v1⟩ ⟨B2, u2, v2⟩ .z .z) rfl HXZ.out (by rfl) (by rfl) (by rfl) _ Try.underlying48 rfl (by kernel_rfl)) rfl ?_
      exact partsP_err HE.out _ _ _ _ _ _ _ HRZ.out HBZ.out
    | ok p =>
      obtain ⟨pr, rest2⟩ := p
      simp only [rval_ok, rerr_ok] at HRN ⊢
      have HRF : Hid (RfR (fun b => w.heap.size + 1 < b) w5 ({ { Rq.of 7 with text := y } with run := pr }) .z ⟨B1, u1, v1⟩ ⟨B2, u2, v2⟩ .z .z) := Lib.hid ⟨HRF5.out.options, goesRunR.mono HRN.out fun b hb _ => by have hb : w4.heap.size ≤ b := hb; omega, HRF5.out.events, HRF5.out.all⟩
      go_upto_region 28 with (first | (refine wpList_storeB HX5.out (by rfl) 45 _ _ (by rfl) 4 (runV (pr) B1 u1 v1 B2 u2 v2) (by rfl) (by rfl) (by kernel_rfl) (by show 4 + 13 ≤ 22; decide) (by rfl) ?_; intro w6 hx6 hg6; have HX6 : Hid (Bx (fun b => b = w.heap.size + 1) w6 (w.heap.size + 1) (rfV ({ { Rq.of 7 with text := y } with run := pr }) .z ⟨B1, u1, v1⟩ ⟨B2, u2, v2⟩ .z .z)) := Lib.hid hx6; have HF6 : Hid (Fr (fun b => b = w.heap.size + 1) w5 w6) := Lib.hid (Fr.of_one hg6 rfl); clear hx6 hg6))
      clear HX5 HRF5
      have HXR6 := Lib.hid (goesBx.keep HXR.out HF6.out.size fun b hb hlt => HF6.out.block b hlt (by rw [hb]; show ¬ w.heap.size = w.heap.size + 1; omega))
      have HB6 := Lib.hid (HB.out.trans (HF6.out.below HB.out.size fun b hb e => by have e : b = w.heap.size + 1 := e; omega))
      have HRF6 := Lib.hid (goesRf.keep HRF.out HF6.out.size fun b hb hlt => HF6.out.block b hlt (by have hb : w.heap.size + 1 < b := hb; show ¬ b = w.heap.size + 1; omega))
      clear HXR HB HRF HF6
      have HXR := HXR6
      have HB := HB6
      have HRF := HRF6
      have HX := HX6
      clear HXR6 HB6 HRF6 HX6
      have hz_w6 : w.heap.size + 1 < w6.heap.size := HX.out.lt
      have HE : Hid (r = .ok ({ { Rq.of 7 with text := y } with run := pr }, rest2)) := Lib.hid (HR2.out.trans (bindR_ok HRU.out))
      go_wp2_with (first | (refine wpList_loadB HX.out (by rfl) 48 _ (by rfl) (by rfl) _ Try.underlying48 rfl (by kernel_rfl) ?_) | (refine wpList_storeB HXR.out (by rfl) 48 _ _ (by rfl) 0 (rfV ({ { Rq.of 7 with text := y } with run := pr }) .z ⟨B1, u1, v1⟩ ⟨B2, u2, v2⟩ .z .z) (by rfl) (by rfl) (by kernel_rfl) (by show 0 + 22 ≤ 22; decide) (by rfl) ?_; intro wz hxz hgz; have HXZ : Hid (Bx (fun b => b = w.heap.size) wz w.heap.size (rfV ({ { Rq.of 7 with text := y } with run := pr }) .z ⟨B1, u1, v1⟩ ⟨B2, u2, v2⟩ .z .z)) := Lib.hid hxz; have HBZ := Lib.hid (Below.grown1 HB.out hgz HB.out.size (Nat.le_refl _)); have HRZ := Lib.hid (goesRf.mono (goesRf.keep HRF.out hgz.size fun b hb hlt => hgz.block b hlt (fun e => by injection e with e; have hb : w.heap.size + 1 < b := hb; omega)) (S' := fun b => w.heap.size ≤ b) fun b hb _ => by have hb : w.heap.size + 1 < b := hb; omega); clear hxz hgz))
      refine bodyPost_ret (results_box3 (vs := rfV ({ { Rq.of 7 with text := y } with run := pr }) .z ⟨B1, u1, v1⟩ ⟨B2, u2, v2⟩ .z .z) rfl HXZ.out (by rfl) (by rfl) (by rfl) _ Try.underlying48 rfl (by kernel_rfl)) rfl ?_
      exact partsP_ok HE.out _ _ _ _ _ _ HQ5.out.le HQ5.out.drop HRZ.out HBZ.out
set_option maxHeartbeats 8000000 in
set_option maxRecDepth 100000 in
theorem rparts8_10 {S : Nat → Prop} {A : Option Addr} {m c : Nat} {bs : B} {w : World} (hs : Sl S w A m c bs) (hm : m ≤ 140737488355328) (r : Res Rq) (hr : getParts 10 bs = r) :
    Calls Try.prog 48 #[.int .u8 10, .slice A m c] w fun e w' => PartsP w bs r e w' := by
  have HS := Lib.hid hs.lt
  have hlb := Lib.hid hs.len
  have hcp := hs.cap
  have hcm := hs.capMax
  clear hs
  have HR := Lib.hid hr; clear hr
  have hzm : 0 ≤ m := Nat.zero_le _
  go_enter Try.func48, Try.ntmps48
  go_upto_region 2 with (first | (refine wpList_built (by rfl) 48 _ (by rfl) #[.int .u8 10, .slice none 0 0, .string ⟨#[]⟩, .string ⟨#[]⟩, .int .u16 0, .slice none 0 0, .slice none 0 0, .bool false, .bool false, .int .i32 0, .bool false, .int .i64 0, .string ⟨#[]⟩, .bool false, .int .u16 0, .bool false, .int .i64 0, .slice none 0 0, .int .i64 0, .string ⟨#[]⟩, .int .u8 0, .slice none 0 0] (by kernel_rfl) ?_) | (refine wpList_store_newB (by rfl) 48 _ _ (by rfl) _ _ _ _ (by rfl) (by rfl) (by simp) (by rfl) (by kernel_rfl) (by rfl) (by rfl) ?_; intro w2 hb2 hz2 hx2; rw [World.size_alloc] at hx2; have HX2 : Hid (Bx (fun b => b = w.heap.size + 1) w2 (w.heap.size + 1) (rfV (Rq.of 10) .z .z .z .z .z)) := Lib.hid hx2; have HXR2 : Hid (Bx (fun b => b = w.heap.size) w2 w.heap.size zeroR) := Lib.hid (goesBx.after (Bx.alloc w #[.int .u8 0, .slice none 0 0, .string ⟨#[]⟩, .string ⟨#[]⟩, .int .u16 0, .slice none 0 0, .slice none 0 0, .bool false, .bool false, .int .i32 0, .bool false, .int .i64 0, .string ⟨#[]⟩, .bool false, .int .u16 0, .bool false, .int .i64 0, .slice none 0 0, .int .i64 0, .string ⟨#[]⟩, .int .u8 0, .slice none 0 0] 48 (S := fun b => b = w.heap.size) rfl rfl) hb2); have HB2 := Lib.hid (((Below.refl w.heap.size w).alloc (Nat.le_refl _) (.cells #[.int .u8 0, .slice none 0 0, .string ⟨#[]⟩, .string ⟨#[]⟩, .int .u16 0, .slice none 0 0, .slice none 0 0, .bool false, .bool false, .int .i32 0, .bool false, .int .i64 0, .string ⟨#[]⟩, .bool false, .int .u16 0, .bool false, .int .i64 0, .slice none 0 0, .int .i64 0, .string ⟨#[]⟩, .int .u8 0, .slice none 0 0] 48)).trans (hb2.mono (by simp))); clear hb2 hz2 hx2))
  have hz2 : w.heap.size + 1 < w2.heap.size := HX2.out.lt
  have HX := HX2; have HXR := HXR2; have HB := HB2; clear HX2 HXR2 HB2
  obtain ⟨rz, hrz⟩ : ∃ z, getText bs = z := ⟨_, rfl⟩
  have HRZ0 := Lib.hid hrz; clear hrz
  go_wp2_with fail
  refine (rgetShort8_any (a := 0) (HS.out.fin HB.out) hm hzm rz (by rw [List.drop_zero, HRZ0.out])).mono ?_
  rintro e w3 ⟨q, rfl, hq, rfl⟩
  have hb3 : Below w2.heap.size w2 w2 := Below.refl _ _
  have HQ := Lib.hid hq; clear hq
  have HX3 := Lib.hid (goesBx.after HX.out hb3)
  have HXR3 := Lib.hid (goesBx.after HXR.out hb3)
  have HB3 := Lib.hid (HB.out.trans (hb3.mono HB.out.size))
  clear HX HXR HB
  have HXR := HXR3
  have HB := HB3
  clear HXR3 HB3 hb3
  have hz3 : w.heap.size + 1 < w2.heap.size := HX3.out.lt
  cases rz with
  | error e =>
    have hne : (e == 0) = false := by simpa using nzText _ _ HRZ0.out
    simp only [rval_error, rerr_error]
    have HRF : Hid (RfR (fun b => w.heap.size + 1 < b) w2 ({ Rq.of 10 with ident := [] }) .z .z .z .z .z) := Lib.hid (⟨Arr.nil, ⟨Arr.nil, Arr.nil⟩, Arr.nil, Arr.nil⟩ : RfR _ _ _ .z .z .z .z .z)
    have f1 := HX3.out.fr 3
    have k1 := HX3.out.c 3 _ rfl
    have HX4 : Hid (Bx (fun b => b = w.heap.size + 1) (w2.setCell ⟨w.heap.size + 1, 3, none⟩ (.string (str ([] : B)))) (w.heap.size + 1) (rfV ({ Rq.of 10 with ident := [] }) .z .z .z .z .z)) := Lib.hid (HX3.out.put 3 _ (by show 3 < 22; decide))
    have HF4 : Hid (Fr (fun b => b = w.heap.size + 1) w2 (w2.setCell ⟨w.heap.size + 1, 3, none⟩ (.string (str ([] : B))))) := Lib.hid (HX3.out.frPut 3 _)
    go_upto_region 26 with fail
    clear f1 k1 HX3
    obtain ⟨w4, hw_w4⟩ : ∃ w4, w4 = w2.setCell ⟨w.heap.size + 1, 3, none⟩ (.string (str ([] : B))) := ⟨_, rfl⟩
    rw [← hw_w4] at HX4 HF4 ⊢
    clear hw_w4
    have HXR4 := Lib.hid (goesBx.keep HXR.out HF4.out.size fun b hb hlt => HF4.out.block b hlt (by rw [hb]; show ¬ w.heap.size = w.heap.size + 1; omega))
    have HB4 := Lib.hid (HB.out.trans (HF4.out.below HB.out.size fun b hb e => by have e : b = w.heap.size + 1 := e; omega))
    have HRF4 := Lib.hid (goesRf.keep HRF.out HF4.out.size fun b hb hlt => HF4.out.block b hlt (by have hb : w.heap.size + 1 < b := hb; show ¬ b = w.heap.size + 1; omega))
    clear HXR HB HRF HF4
    have HXR := HXR4
    have HB := HB4
    have HRF := HRF4
    have HX := HX4
    clear HXR4 HB4 HRF4 HX4
    have hz_w4 : w.heap.size + 1 < w4.heap.size := HX.out.lt
    have HE : Hid (r = .error e) := Lib.hid (HR.out.symm.trans ((gp10 bs).trans (bindR_err HRZ0.out)))
    go_wp2_with (first | (refine wpList_loadB HX.out (by rfl) 48 _ (by rfl) (by rfl) _ Try.underlying48 rfl (by kernel_rfl) ?_) | (refine wpList_storeB HXR.out (by rfl) 48 _ _ (by rfl) 0 (rfV ({ Rq.of 10 with ident := [] }) .z .z .z .z .z) (by rfl) (by rfl) (by kernel_rfl) (by show 0 + 22 ≤ 22; decide) (by rfl) ?_; intro wz hxz hgz; have HXZ : Hid (Bx (fun b => b = w.heap.size) wz w.heap.size (rfV ({ Rq.of 10 with ident := [] }) .z .z .z .z .z)) := Lib.hid hxz; have HBZ := Lib.hid (Below.grown1 HB.out hgz HB.out.size (Nat.le_refl _)); have HRZ := Lib.hid (goesRf.mono (goesRf.keep HRF.out hgz.size fun b hb hlt => hgz.block b hlt (fun e => by injection e with e; have hb : w.heap.size + 1 < b := hb; omega)) (S' := fun b => w.heap.size ≤ b) fun b hb _ => by have hb : w.heap.size + 1 < b := hb; omega); clear hxz hgz))
    refine bodyPost_ret (results_box3 (vs := rfV ({ Rq.of 10 with ident := [] }) .z .z .z .z .z) rfl HXZ.out (by rfl) (by rfl) (by rfl) _ Try.underlying48 rfl (by kernel_rfl)) rfl ?_
    exact partsP_err HE.out _ _ _ _ _ _ _ HRZ.out HBZ.out
  | ok p =>
    obtain ⟨y, rest⟩ := p
    simp only [rval_ok, rerr_ok]
    have HRF : Hid (RfR (fun b => w.heap.size + 1 < b) w2 ({ Rq.of 10 with ident := y }) .z .z .z .z .z) := Lib.hid (⟨Arr.nil, ⟨Arr.nil, Arr.nil⟩, Arr.nil, Arr.nil⟩ : RfR _ _ _ .z .z .z .z .z)
    have f1 := HX3.out.fr 3
    have k1 := HX3.out.c 3 _ rfl
    have HX4 : Hid (Bx (fun b => b = w.heap.size + 1) (w2.setCell ⟨w.heap.size + 1, 3, none⟩ (.string (str y))) (w.heap.size + 1) (rfV ({ Rq.of 10 with ident := y }) .z .z .z .z .z)) := Lib.hid (HX3.out.put 3 _ (by show 3 < 22; decide))
    have HF4 : Hid (Fr (fun b => b = w.heap.size + 1) w2 (w2.setCell ⟨w.heap.size + 1, 3, none⟩ (.string (str y)))) := Lib.hid (HX3.out.frPut 3 _)
    go_upto_region 26 with fail
    clear f1 k1 HX3
    obtain ⟨w4, hw_w4⟩ : ∃ w4, w4 = w2.setCell ⟨w.heap.size + 1, 3, none⟩ (.string (str y)) := ⟨_, rfl⟩
    rw [← hw_w4] at HX4 HF4 ⊢
    clear hw_w4
    have HXR4 := Lib.hid (goesBx.keep HXR.out HF4.out.size fun b hb hlt => HF4.out.block b hlt (by rw [hb]; show ¬ w.heap.size = w.heap.size + 1; omega))
    have HB4 := Lib.hid (HB.out.trans (HF4.out.below HB.out.size fun b hb e => by have e : b = w.heap.size + 1 := e; omega))
    have HRF4 := Lib.hid (goesRf.keep HRF.out HF4.out.size fun b hb hlt => HF4.out.block b hlt (by have hb : w.heap.size + 1 < b := hb; show ¬ b = w.heap.size + 1; omega))
    clear HXR HB HRF HF4
    have HXR := HXR4
    have HB := HB4
    have HRF := HRF4
    have HX := HX4
    clear HXR4 HB4 HRF4 HX4
    have hz_w4 : w.heap.size + 1 < w4.heap.size := HX.out.lt
    have HR2 : Hid (r = bindR (getRun false rest) fun p r => .ok ({ { Rq.of 10 with ident := y } with run := p }, r)) := Lib.hid (HR.out.symm.trans ((gp10 bs).trans (bindR_ok HRZ0.out)))
    have hqm : q ≤ m := by have := HQ.out.le; have := hlb.out; omega
    obtain ⟨ru, hru⟩ : ∃ z, getRun false rest = z := ⟨_, rfl⟩
    have HRU := Lib.hid hru; clear hru
    go_wp2_with fail
    refine (rgetRun8_false (a := q) (HS.out.fin HB.out) hm hqm ru (by rw [HQ.out.drop]; exact HRU.out)).mono ?_
    rintro e w5 ⟨B1, u1, v1, B2, u2, v2, q5, rfl, hrr, hq5, hb5⟩
    have HQ5 := Lib.hid hq5; clear hq5
    have HRN := Lib.hid hrr; clear hrr
    have HX5 := Lib.hid (goesBx.after HX.out hb5)
    have HXR5 := Lib.hid (goesBx.after HXR.out hb5)
    have HB5 := Lib.hid (HB.out.trans (hb5.mono HB.out.size))
    have HRF5 := Lib.hid (goesRf.after HRF.out hb5)
    clear HX HXR HB HRF hb5
    have HXR := HXR5
    have HB := HB5
    clear HXR5 HB5
    have hz5 : w.heap.size + 1 < w5.heap.size := HX5.out.lt
    cases ru with
    | error e =>
      have hne : (e == 0) = false := by simpa using nzRun _ _ _ HRU.out
      simp only [rval_error, rerr_error] at HRN ⊢
      have HRF : Hid (RfR (fun b => w.heap.size + 1 < b) w5 ({ { Rq.of 10 with ident := y } with run := Par.none }) .z ⟨B1, u1, v1⟩ ⟨B2, u2, v2⟩ .z .z) := Lib.hid ⟨HRF5.out.options, goesRunR.mono HRN.out fun b hb _ => by have hb : w4.heap.size ≤ b := hb; omega, HRF5.out.events, HRF5.out.all⟩
      go_upto_region 28 with (first | (refine wpList_storeB HX5.out (by rfl) 45 _ _ (by rfl) 4 (runV (Par.none) B1 u1 v1 B2 u2 v2) (by rfl) (by rfl) (by kernel_rfl) (by show 4 + 13 ≤ 22; decide) (by rfl) ?_; intro w6 hx6 hg6; have HX6 : Hid (Bx (fun b => b = w.heap.size + 1) w6 (w.heap.size + 1) (rfV ({ { Rq.of 10 with ident := y } with run := Par.none }) .z ⟨B1, u1, v1⟩ ⟨B2, u2, v2⟩ .z .z)) := Lib.hid hx6; have HF6 : Hid (Fr (fun b => b = w.heap.size + 1) w5 w6) := Lib.hid (Fr.of_one hg6 rfl); clear hx6 hg6))
      clear HX5 HRF5
      have HXR6 := Lib.hid (goesBx.keep HXR.out HF6.out.size fun b hb hlt => HF6.out.block b hlt (by rw [hb]; show ¬ w.heap.size = w.heap.size + 1; omega))
      have HB6 := Lib.hid (HB.out.trans (HF6.out.below HB.out.size fun b hb e => by have e : b = w.heap.size + 1 := e; omega))
      have HRF6 := Lib.hid (goesRf.keep HRF.out HF6.out.size fun b hb hlt => HF6.out.block b hlt (by have hb : w.heap.size + 1 < b := hb; show ¬ b = w.heap.size + 1; omega))
      clear HXR HB HRF HF6
      have HXR := HXR6
      have HB := HB6
      have HRF := HRF6
      have HX := HX6
      clear HXR6 HB6 HRF6 HX6
      have hz_w6 : w.heap.size + 1 < w6.heap.size := HX.out.lt
      have HE : Hid (r = .error e) := Lib.hid (HR2.out.trans (bindR_err HRU.out))
      go_wp2_with (first | (refine wpList_loadB HX.out (by rfl) 48 _ (by rfl) (by rfl) _ Try.underlying48 rfl (by kernel_rfl) ?_) | (refine wpList_storeB HXR.out (by rfl) 48 _ _ (by rfl) 0 (rfV ({ { Rq.of 10 with ident := y } with run := Par.none }) .z ⟨B1, u1, v1⟩ ⟨B2, u2, v2⟩ .z .z) (by rfl) (by rfl) (by kernel_rfl) (by show 0 + 22 ≤ 22; decide) (by rfl) ?_; intro wz hxz hgz; have HXZ : Hid (Bx (fun b => b = w.heap.size) wz w.heap.size (rfV ({ { Rq.of 10 with ident := y } with run := Par.none }) .z ⟨B1, u1, v1⟩ ⟨B2, u2, v2⟩ .z .z)) := Lib.hid hxz; have HBZ := Lib.hid (Below.grown1 HB.out hgz HB.out.size (Nat.le_refl _)); have HRZ := Lib.hid (goesRf.mono (goesRf.keep HRF.out hgz.size fun b hb hlt => hgz.block b hlt (fun e => by injection e with e; have hb : w.heap.size + 1 < b := hb; omega)) (S' := fun b => w.heap.size ≤ b) fun b hb _ => by have hb : w.heap.size + 1 < b := hb; omega); clear hxz hgz))
      refine bodyPost_ret (results_box3 (vs := rfV ({ { Rq.of 10 with ident := y } with run := Par.none }) .z ⟨B1, u1, v1⟩ ⟨B2, u2, v2⟩ .z .z) rfl HXZ.out (by rfl) (by rfl) (by rfl) _ Try.underlying48 rfl (by kernel_rfl)) rfl ?_
      exact partsP_err HE.out _ _ _ _ _ _ _ HRZ.out HBZ.out
    | ok p =>
      obtain ⟨pr, rest2⟩ := p
      simp only [rval_ok, rerr_ok] at HRN ⊢
      have HRF : Hid (RfR (fun b => w.heap.size + 1 < b) w5 ({ { Rq.of 10 with ident := y } with run := pr }) .z ⟨B1, u1, v1⟩ ⟨B2, u2, v2⟩ .z .z) := Lib.hid ⟨HRF5.out.options, goesRunR.mono HRN.out fun b hb _ => by have hb : w4.heap.size ≤ b := hb; omega, HRF5.out.events, HRF5.out.all⟩
      go_upto_region 28 with (first | (refine wpList_storeB HX5.out (by rfl) 45 _ _ (by rfl) 4 (runV (pr) B1 u1 v1 B2 u2 v2) (by rfl) (by rfl) (by kernel_rfl) (by show 4 + 13 ≤ 22; decide) (by rfl) ?_; intro w6 hx6 hg6; have HX6 : Hid (Bx (fun b => b = w.heap.size + 1) w6 (w.heap.size + 1) (rfV ({ { Rq.of 10 with ident := y } with run := pr }) .z ⟨B1, u1, v1⟩ ⟨B2, u2, v2⟩ .z .z)) := Lib.hid hx6; have HF6 : Hid (Fr (fun b => b = w.heap.size + 1) w5 w6) := Lib.hid (Fr.of_one hg6 rfl); clear hx6 hg6))
      clear HX5 HRF5
      have HXR6 := Lib.hid (goesBx.keep HXR.out HF6.out.size fun b hb hlt => HF6.out.block b hlt (by rw [hb]; show ¬ w.heap.size = w.heap.size + 1; omega))
      have HB6 := Lib.hid (HB.out.trans (HF6.out.below HB.out.size fun b hb e => by have e : b = w.heap.size + 1 := e; omega))
      have HRF6 := Lib.hid (goesRf.keep HRF.out HF6.out.size fun b hb hlt => HF6.out.block b hlt (by have hb : w.heap.size + 1 < b := hb; show ¬ b = w.heap.size + 1; omega))
      clear HXR HB HRF HF6
      have HXR := HXR6
      have HB := HB6
      have HRF := HRF6
      have HX := HX6
      clear HXR6 HB6 HRF6 HX6
      have hz_w6 : w.heap.size + 1 < w6.heap.size := HX.out.lt
      have HE : Hid (r = .ok ({ { Rq.of 10 with ident := y } with run := pr }, rest2)) := Lib.hid (HR2.out.trans (bindR_ok HRU.out))
      go_wp2_with (first | (refine wpList_loadB HX.out (by rfl) 48 _ (by rfl) (by rfl) _ Try.underlying48 rfl (by kernel_rfl) ?_) | (refine wpList_storeB HXR.out (by rfl) 48 _ _ (by rfl) 0 (rfV ({ { Rq.of 10 with ident := y } with run := pr }) .z ⟨B1, u1, v1⟩ ⟨B2, u2, v2⟩ .z .z) (by rfl) (by rfl) (by kernel_rfl) (by show 0 + 22 ≤ 22; decide) (by rfl) ?_; intro wz hxz hgz; have HXZ : Hid (Bx (fun b => b = w.heap.size) wz w.heap.size (rfV ({ { Rq.of 10 with ident := y } with run := pr }) .z ⟨B1, u1, v1⟩ ⟨B2, u2, v2⟩ .z .z)) := Lib.hid hxz; have HBZ := Lib.hid (Below.grown1 HB.out hgz HB.out.size (Nat.le_refl _)); have HRZ := Lib.hid (goesRf.mono (goesRf.keep HRF.out hgz.size fun b hb hlt => hgz.block b hlt (fun e => by injection e with e; have hb : w.heap.size + 1 < b := hb; omega)) (S' := fun b => w.heap.size ≤ b) fun b hb _ => by have hb : w.heap.size + 1 < b := hb; omega); clear hxz hgz))
      refine bodyPost_ret (results_box3 (vs := rfV ({ { Rq.of 10 with ident := y } with run := pr }) .z ⟨B1, u1, v1⟩ ⟨B2, u2, v2⟩ .z .z) rfl HXZ.out (by rfl) (by rfl) (by rfl) _ Try.underlying48 rfl (by kernel_rfl)) rfl ?_
      exact partsP_ok HE.out _ _ _ _ _ _ HQ5.out.le HQ5.out.drop HRZ.out HBZ.out
set_option maxHeartbeats 8000000 in
set_option maxRecDepth 100000 in
theorem rparts8_13 {S : Nat → Prop} {A : Option Addr} {m c : Nat} {bs : B} {w : World} (hs : Sl S w A m c bs) (hm : m ≤ 140737488355328) (r : Res Rq) (hr : getParts 13 bs = r) :
    Calls Try.prog 48 #[.int .u8 13, .slice A m c] w fun e w' => PartsP w bs r e w' := by
  have HS := Lib.hid hs.lt
  have hlb := Lib.hid hs.len
  have hcp := hs.cap
  have hcm := hs.capMax
  clear hs
  have HR := Lib.hid hr; clear hr
  have hzm : 0 ≤ m := Nat.zero_le _
  go_enter Try.func48, Try.ntmps48
  go_upto_region 2 with (first | (refine wpList_built (by rfl) 48 _ (by rfl) #[.int .u8 13, .slice none 0 0, .string ⟨#[]⟩, .string ⟨#[]⟩, .int .u16 0, .slice none 0 0, .slice none 0 0, .bool false, .bool false, .int .i32 0, .bool false, .int .i64 0, .string ⟨#[]⟩, .bool false, .int .u16 0, .bool false, .int .i64 0, .slice none 0 0, .int .i64 0, .string ⟨#[]⟩, .int .u8 0, .slice none 0 0] (by kernel_rfl) ?_) | (refine wpList_store_newB (by rfl) 48 _ _ (by rfl) _ _ _ _ (by rfl) (by rfl) (by simp) (by rfl) (by kernel_rfl) (by rfl) (by rfl) ?_; intro w2 hb2 hz2 hx2; rw [World.size_alloc] at hx2; have HX2 : Hid (Bx (fun b => b = w.heap.size + 1) w2 (w.heap.size + 1) (rfV (Rq.of 13) .z .z .z .z .z)) := Lib.hid hx2; have HXR2 : Hid (Bx (fun b => b = w.heap.size) w2 w.heap.size zeroR) := Lib.hid (goesBx.after (Bx.alloc w #[.int .u8 0, .slice none 0 0, .string ⟨#[]⟩, .string ⟨#[]⟩, .int .u16 0, .slice none 0 0, .slice none 0 0, .bool false, .bool false, .int .i32 0, .bool false, .int .i64 0, .string ⟨#[]⟩, .bool false, .int .u16 0, .bool false, .int .i64 0, .slice none 0 0, .int .i64 0, .string ⟨#[]⟩, .int .u8 0, .slice none 0 0] 48 (S := fun b => b = w.heap.size) rfl rfl) hb2); have HB2 := Lib.hid (((Below.refl w.heap.size w).alloc (Nat.le_refl _) (.cells #[.int .u8 0, .slice none 0 0, .string ⟨#[]⟩, .string ⟨#[]⟩, .int .u16 0, .slice none 0 0, .slice none 0 0, .bool false, .bool false, .int .i32 0, .bool false, .int .i64 0, .string ⟨#[]⟩, .bool false, .int .u16 0, .bool false, .int .i64 0, .slice none 0 0, .int .i64 0, .string ⟨#[]⟩, .int .u8 0, .slice none 0 0] 48)).trans (hb2.mono (by simp))); clear hb2 hz2 hx2))
  have hz2 : w.heap.size + 1 < w2.heap.size := HX2.out.lt
  have HX := HX2; have HXR := HXR2; have HB := HB2; clear HX2 HXR2 HB2
  obtain ⟨rz, hrz⟩ : ∃ z, getN 1 bs = z := ⟨_, rfl⟩
  have HRZ0 := Lib.hid hrz; clear hrz
  go_wp2_with fail
  refine (rget_any (n := 1) (a := 0) (HS.out.fin HB.out) hzm (by decide) (by decide) rz (by rw [List.drop_zero, HRZ0.out])).mono ?_
  rintro e w3 ⟨q, rfl, hq, rfl⟩
  have HQ := Lib.hid hq; clear hq
  have HX3 := HX; clear HX
  cases rz with
  | error e =>
    have hne : (e == 0) = false := by simpa using nzN 1 _ _ HRZ0.out
    simp only [rval_error, rerr_error]
    have HRF : Hid (RfR (fun b => w.heap.size + 1 < b) w2 ({ Rq.of 13 with kind := 0 }) .z .z .z .z .z) := Lib.hid (⟨Arr.nil, ⟨Arr.nil, Arr.nil⟩, Arr.nil, Arr.nil⟩ : RfR _ _ _ .z .z .z .z .z)
    have f1 := HX3.out.fr 20
    have k1 := HX3.out.c 20 _ rfl
    have HX4 : Hid (Bx (fun b => b = w.heap.size + 1) (w2.setCell ⟨w.heap.size + 1, 20, none⟩ (.int .u8 0)) (w.heap.size + 1) (rfV ({ Rq.of 13 with kind := 0 }) .z .z .z .z .z)) := Lib.hid (HX3.out.put 20 _ (by show 20 < 22; decide))
    have HF4 : Hid (Fr (fun b => b = w.heap.size + 1) w2 (w2.setCell ⟨w.heap.size + 1, 20, none⟩ (.int .u8 0))) := Lib.hid (HX3.out.frPut 20 _)
    go_upto_region 26 with fail
    clear f1 k1 HX3
    obtain ⟨w4, hw_w4⟩ : ∃ w4, w4 = w2.setCell ⟨w.heap.size + 1, 20, none⟩ (.int .u8 0) := ⟨_, rfl⟩
    rw [← hw_w4] at HX4 HF4 ⊢
    clear hw_w4
    have HXR4 := Lib.hid (goesBx.keep HXR.out HF4.out.size fun b hb hlt => HF4.out.block b hlt (by rw [hb]; show ¬ w.heap.size = w.heap.size + 1; omega))
    have HB4 := Lib.hid (HB.out.trans (HF4.out.below HB.out.size fun b hb e => by have e : b = w.heap.size + 1 := e; omega))
    have HRF4 := Lib.hid (goesRf.keep HRF.out HF4.out.size fun b hb hlt => HF4.out.block b hlt (by have hb : w.heap.size + 1 < b := hb; show ¬ b = w.heap.size + 1; omega))
    clear HXR HB HRF HF4
    have HXR := HXR4
    have HB := HB4
    have HRF := HRF4
    have HX := HX4
    clear HXR4 HB4 HRF4 HX4
    have hz_w4 : w.heap.size + 1 < w4.heap.size := HX.out.lt
    have HE : Hid (r = .error e) := Lib.hid (HR.out.symm.trans ((gp13 bs).trans (bindR_err HRZ0.out)))
    go_wp2_with (first | (refine wpList_loadB HX.out (by rfl) 48 _ (by rfl) (by rfl) _ Try.underlying48 rfl (by kernel_rfl) ?_) | (refine wpList_storeB HXR.out (by rfl) 48 _ _ (by rfl) 0 (rfV ({ Rq.of 13 with kind := 0 }) .z .z .z .z .z) (by rfl) (by rfl) (by kernel_rfl) (by show 0 + 22 ≤ 22; decide) (by rfl) ?_; intro wz hxz hgz; have HXZ : Hid (Bx (fun b => b = w.heap.size) wz w.heap.size (rfV ({ Rq.of 13 with kind := 0 }) .z .z .z .z .z)) := Lib.hid hxz; have HBZ := Lib.hid (Below.grown1 HB.out hgz HB.out.size (Nat.le_refl _)); have HRZ := Lib.hid (goesRf.mono (goesRf.keep HRF.out hgz.size fun b hb hlt => hgz.block b hlt (fun e => by injection e with e; have hb : w.heap.size + 1 < b := hb; omega)) (S' := fun b => w.heap.size ≤ b) fun b hb _ => by have hb : w.heap.size + 1 < b := hb; omega); clear hxz hgz))
    refine bodyPost_ret (results_box3 (vs := rfV ({ Rq.of 13 with kind := 0 }) .z .z .z .z .z) rfl HXZ.out (by rfl) (by rfl) (by rfl) _ Try.underlying48 rfl (by kernel_rfl)) rfl ?_
    exact partsP_err HE.out _ _ _ _ _ _ _ HRZ.out HBZ.out
  | ok p =>
    obtain ⟨kd, rest⟩ := p
    have hkd := (getN_ok HRZ0.out).2.2.2
    simp only [Nat.reducePow] at hkd
    simp only [rval_ok, rerr_ok]
    have HRF : Hid (RfR (fun b => w.heap.size + 1 < b) w2 ({ Rq.of 13 with kind := kd }) .z .z .z .z .z) := Lib.hid (⟨Arr.nil, ⟨Arr.nil, Arr.nil⟩, Arr.nil, Arr.nil⟩ : RfR _ _ _ .z .z .z .z .z)
    have f1 := HX3.out.fr 20
    have k1 := HX3.out.c 20 _ rfl
    have HX4 : Hid (Bx (fun b => b = w.heap.size + 1) (w2.setCell ⟨w.heap.size + 1, 20, none⟩ (.int .u8 (kd : Int))) (w.heap.size + 1) (rfV ({ Rq.of 13 with kind := kd }) .z .z .z .z .z)) := Lib.hid (HX3.out.put 20 _ (by show 20 < 22; decide))
    have HF4 : Hid (Fr (fun b => b = w.heap.size + 1) w2 (w2.setCell ⟨w.heap.size + 1, 20, none⟩ (.int .u8 (kd : Int)))) := Lib.hid (HX3.out.frPut 20 _)
    by_cases hk2 : 2 < kd
    · go_upto_region 26 with fail
      clear f1 k1 HX3
      obtain ⟨w4, hw_w4⟩ : ∃ w4, w4 = w2.setCell ⟨w.heap.size + 1, 20, none⟩ (.int .u8 (kd : Int)) := ⟨_, rfl⟩
      rw [← hw_w4] at HX4 HF4 ⊢
      clear hw_w4
      have HXR4 := Lib.hid (goesBx.keep HXR.out HF4.out.size fun b hb hlt => HF4.out.block b hlt (by rw [hb]; show ¬ w.heap.size = w.heap.size + 1; omega))
      have HB4 := Lib.hid (HB.out.trans (HF4.out.below HB.out.size fun b hb e => by have e : b = w.heap.size + 1 := e; omega))
      have HRF4 := Lib.hid (goesRf.keep HRF.out HF4.out.size fun b hb hlt => HF4.out.block b hlt (by have hb : w.heap.size + 1 < b := hb; show ¬ b = w.heap.size + 1; omega))
      clear HXR HB HRF HF4
      have HXR := HXR4
      have HB := HB4
      have HRF := HRF4
      have HX := HX4
      clear HXR4 HB4 HRF4 HX4
      have hz_w4 : w.heap.size + 1 < w4.heap.size := HX.out.lt
      have HE : Hid (r = .error 11) := Lib.hid (HR.out.symm.trans ((gp13 bs).trans ((bindR_ok HRZ0.out).trans (if_pos hk2))))
      go_wp2_with (first | (refine wpList_loadB HX.out (by rfl) 48 _ (by rfl) (by rfl) _ Try.underlying48 rfl (by kernel_rfl) ?_) | (refine wpList_storeB HXR.out (by rfl) 48 _ _ (by rfl) 0 (rfV ({ Rq.of 13 with kind := kd }) .z .z .z .z .z) (by rfl) (by rfl) (by kernel_rfl) (by show 0 + 22 ≤ 22; decide) (by rfl) ?_; intro wz hxz hgz; have HXZ : Hid (Bx (fun b => b = w.heap.size) wz w.heap.size (rfV ({ Rq.of 13 with kind := kd }) .z .z .z .z .z)) := Lib.hid hxz; have HBZ := Lib.hid (Below.grown1 HB.out hgz HB.out.size (Nat.le_refl _)); have HRZ := Lib.hid (goesRf.mono (goesRf.keep HRF.out hgz.size fun b hb hlt => hgz.block b hlt (fun e => by injection e with e; have hb : w.heap.size + 1 < b := hb; omega)) (S' := fun b => w.heap.size ≤ b) fun b hb _ => by have hb : w.heap.size + 1 < b := hb; omega); clear hxz hgz))
      refine bodyPost_ret (results_box3 (vs := rfV ({ Rq.of 13 with kind := kd }) .z .z .z .z .z) rfl HXZ.out (by rfl) (by rfl) (by rfl) _ Try.underlying48 rfl (by kernel_rfl)) rfl ?_
      exact partsP_err HE.out _ _ _ _ _ _ _ HRZ.out HBZ.out
    · have HR1 : Hid (r = bindR (getAll rest) fun l r => bindR (getRun true r) fun p r => .ok ({ Rq.of 13 with kind := kd, all := l, run := p }, r)) := Lib.hid (HR.out.symm.trans ((gp13 bs).trans ((bindR_ok HRZ0.out).trans (if_neg hk2))))
      go_upto_region 25 with fail
      clear f1 k1 HX3
      obtain ⟨w4, hw_w4⟩ : ∃ w4, w4 = w2.setCell ⟨w.heap.size + 1, 20, none⟩ (.int .u8 (kd : Int)) := ⟨_, rfl⟩
      rw [← hw_w4] at HX4 HF4 ⊢
      clear hw_w4
      have HXR4 := Lib.hid (goesBx.keep HXR.out HF4.out.size fun b hb hlt => HF4.out.block b hlt (by rw [hb]; show ¬ w.heap.size = w.heap.size + 1; omega))
      have HB4 := Lib.hid (HB.out.trans (HF4.out.below HB.out.size fun b hb e => by have e : b = w.heap.size + 1 := e; omega))
      have HRF4 := Lib.hid (goesRf.keep HRF.out HF4.out.size fun b hb hlt => HF4.out.block b hlt (by have hb : w.heap.size + 1 < b := hb; show ¬ b = w.heap.size + 1; omega))
      clear HXR HB HRF HF4
      have HXR := HXR4
      have HB := HB4
      have HRF := HRF4
      have HX := HX4
      clear HXR4 HB4 HRF4 HX4
      have hz_w4 : w.heap.size + 1 < w4.heap.size := HX.out.lt
      have hqm0 : q ≤ m := by have := HQ.out.le; have := hlb.out; omega
      obtain ⟨ra, hra⟩ : ∃ z, getAll rest = z := ⟨_, rfl⟩
      have HRA := Lib.hid hra; clear hra
      go_wp2_with fail
      refine (rgetAll8_any (a := q) (HS.out.fin HB.out) hm hqm0 ra (by rw [HQ.out.drop]; exact HRA.out)).mono ?_
      rintro e w3 ⟨A1, n1, c1, q1, rfl, harr, hq, hb3⟩
      have HQA := Lib.hid hq; clear hq
      have HAR := Lib.hid (goesArrF.mono (S' := fun b => w.heap.size + 1 < b) harr fun b hb _ => by have hb : w4.heap.size ≤ b := hb; omega); clear harr
      clear HRF HQ
      have HX3 := Lib.hid (goesBx.after HX.out hb3)
      have HXR3 := Lib.hid (goesBx.after HXR.out hb3)
      have HB3 := Lib.hid (HB.out.trans (hb3.mono HB.out.size))
      clear HX HXR HB
      have HXR := HXR3
      have HB := HB3
      clear HXR3 HB3 hb3
      have hz3 : w.heap.size + 1 < w3.heap.size := HX3.out.lt
      cases ra with
      | error e =>
        have hne : (e == 0) = false := by simpa using nzAll _ _ HRA.out
        simp only [rval_error, rerr_error] at HAR ⊢
        have HRF : Hid (RfR (fun b => w.heap.size + 1 < b) w3 ({ Rq.of 13 with kind := kd, all := [] }) .z .z .z .z ⟨A1, n1, c1⟩) := Lib.hid ⟨Arr.nil, ⟨Arr.nil, Arr.nil⟩, Arr.nil, HAR.out⟩
        have f1 := HX3.out.fr 21
        have k1 := HX3.out.c 21 _ rfl
        have HX4 : Hid (Bx (fun b => b = w.heap.size + 1) (w3.setCell ⟨w.heap.size + 1, 21, none⟩ (.slice A1 n1 c1)) (w.heap.size + 1) (rfV ({ Rq.of 13 with kind := kd, all := [] }) .z .z .z .z ⟨A1, n1, c1⟩)) := Lib.hid (HX3.out.put 21 _ (by show 21 < 22; decide))
        have HF4 : Hid (Fr (fun b => b = w.heap.size + 1) w3 (w3.setCell ⟨w.heap.size + 1, 21, none⟩ (.slice A1 n1 c1))) := Lib.hid (HX3.out.frPut 21 _)
        go_upto_region 26 with fail
        clear f1 k1 HX3
        obtain ⟨w5, hw_w5⟩ : ∃ w5, w5 = w3.setCell ⟨w.heap.size + 1, 21, none⟩ (.slice A1 n1 c1) := ⟨_, rfl⟩
        rw [← hw_w5] at HX4 HF4 ⊢
        clear hw_w5
        have HXR4 := Lib.hid (goesBx.keep HXR.out HF4.out.size fun b hb hlt => HF4.out.block b hlt (by rw [hb]; show ¬ w.heap.size = w.heap.size + 1; omega))
        have HB4 := Lib.hid (HB.out.trans (HF4.out.below HB.out.size fun b hb e => by have e : b = w.heap.size + 1 := e; omega))
        have HRF4 := Lib.hid (goesRf.keep HRF.out HF4.out.size fun b hb hlt => HF4.out.block b hlt (by have hb : w.heap.size + 1 < b := hb; show ¬ b = w.heap.size + 1; omega))
        clear HXR HB HRF HF4
        have HXR := HXR4
        have HB := HB4
        have HRF := HRF4
        have HX := HX4
        clear HXR4 HB4 HRF4 HX4
        have hz_w5 : w.heap.size + 1 < w5.heap.size := HX.out.lt
        have HE : Hid (r = .error e) := Lib.hid (HR1.out.trans (bindR_err HRA.out))
        go_wp2_with (first | (refine wpList_loadB HX.out (by rfl) 48 _ (by rfl) (by rfl) _ Try.underlying48 rfl (by kernel_rfl) ?_) | (refine wpList_storeB HXR.out (by rfl) 48 _ _ (by rfl) 0 (rfV ({ Rq.of 13 with kind := kd, all := [] }) .z .z .z .z ⟨A1, n1, c1⟩) (by rfl) (by rfl) (by kernel_rfl) (by show 0 + 22 ≤ 22; decide) (by rfl) ?_; intro wz hxz hgz; have HXZ : Hid (Bx (fun b => b = w.heap.size) wz w.heap.size (rfV ({ Rq.of 13 with kind := kd, all := [] }) .z .z .z .z ⟨A1, n1, c1⟩)) := Lib.hid hxz; have HBZ := Lib.hid (Below.grown1 HB.out hgz HB.out.size (Nat.le_refl _)); have HRZ := Lib.hid (goesRf.mono (goesRf.keep HRF.out hgz.size fun b hb hlt => hgz.block b hlt (fun e => by injection e with e; have hb : w.heap.size + 1 < b := hb; omega)) (S' := fun b => w.heap.size ≤ b) fun b hb _ => by have hb : w.heap.size + 1 < b := hb; omega); clear hxz hgz))
        refine bodyPost_ret (results_box3 (vs := rfV ({ Rq.of 13 with kind := kd, all := [] }) .z .z .z .z ⟨A1, n1, c1⟩) rfl HXZ.out (by rfl) (by rfl) (by rfl) _ Try.underlying48 rfl (by kernel_rfl)) rfl ?_
        exact partsP_err HE.out _ _ _ _ _ _ _ HRZ.out HBZ.out
      | ok p =>
        obtain ⟨y, rest1⟩ := p
        simp only [rval_ok, rerr_ok] at HAR ⊢
        have HRF : Hid (RfR (fun b => w.heap.size + 1 < b) w3 ({ Rq.of 13 with kind := kd, all := y }) .z .z .z .z ⟨A1, n1, c1⟩) := Lib.hid ⟨Arr.nil, ⟨Arr.nil, Arr.nil⟩, Arr.nil, HAR.out⟩
        have f1 := HX3.out.fr 21
        have k1 := HX3.out.c 21 _ rfl
        have HX4 : Hid (Bx (fun b => b = w.heap.size + 1) (w3.setCell ⟨w.heap.size + 1, 21, none⟩ (.slice A1 n1 c1)) (w.heap.size + 1) (rfV ({ Rq.of 13 with kind := kd, all := y }) .z .z .z .z ⟨A1, n1, c1⟩)) := Lib.hid (HX3.out.put 21 _ (by show 21 < 22; decide))
        have HF4 : Hid (Fr (fun b => b = w.heap.size + 1) w3 (w3.setCell ⟨w.heap.size + 1, 21, none⟩ (.slice A1 n1 c1))) := Lib.hid (HX3.out.frPut 21 _)
        go_upto_region 26 with fail
        clear f1 k1 HX3
        obtain ⟨w5, hw_w5⟩ : ∃ w5, w5 = w3.setCell ⟨w.heap.size + 1, 21, none⟩ (.slice A1 n1 c1) := ⟨_, rfl⟩
        rw [← hw_w5] at HX4 HF4 ⊢
        clear hw_w5
        have HXR4 := Lib.hid (goesBx.keep HXR.out HF4.out.size fun b hb hlt => HF4.out.block b hlt (by rw [hb]; show ¬ w.heap.size = w.heap.size + 1; omega))
        have HB4 := Lib.hid (HB.out.trans (HF4.out.below HB.out.size fun b hb e => by have e : b = w.heap.size + 1 := e; omega))
        have HRF4 := Lib.hid (goesRf.keep HRF.out HF4.out.size fun b hb hlt => HF4.out.block b hlt (by have hb : w.heap.size + 1 < b := hb; show ¬ b = w.heap.size + 1; omega))
        clear HXR HB HRF HF4
        have HXR := HXR4
        have HB := HB4
        have HRF := HRF4
        have HX := HX4
        clear HXR4 HB4 HRF4 HX4
        have hz_w5 : w.heap.size + 1 < w5.heap.size := HX.out.lt
        have HR2 : Hid (r = bindR (getRun true rest1) fun p r => .ok ({ { Rq.of 13 with kind := kd, all := y } with run := p }, r)) := Lib.hid (HR1.out.trans (bindR_ok HRA.out))
        have hqm : q1 ≤ m := by have := HQA.out.le; have := hlb.out; omega
        obtain ⟨ru, hru⟩ : ∃ z, getRun true rest1 = z := ⟨_, rfl⟩
        have HRU := Lib.hid hru; clear hru
        go_wp2_with fail
        refine (rgetRun8_true (a := q1) (HS.out.fin HB.out) hm hqm ru (by rw [HQA.out.drop]; exact HRU.out)).mono ?_
        rintro e w7 ⟨B1, u1, v1, B2, u2, v2, q5, rfl, hrr, hq5, hb5⟩
        have HQ5 := Lib.hid hq5; clear hq5
        have HRN := Lib.hid hrr; clear hrr
        have HX5 := Lib.hid (goesBx.after HX.out hb5)
        have HXR5 := Lib.hid (goesBx.after HXR.out hb5)
        have HB5 := Lib.hid (HB.out.trans (hb5.mono HB.out.size))
        have HRF5 := Lib.hid (goesRf.after HRF.out hb5)
        clear HX HXR HB HRF hb5
        have HXR := HXR5
        have HB := HB5
        clear HXR5 HB5
        have hz5 : w.heap.size + 1 < w7.heap.size := HX5.out.lt
        cases ru with
        | error e =>
          have hne : (e == 0) = false := by simpa using nzRun _ _ _ HRU.out
          simp only [rval_error, rerr_error] at HRN ⊢
          have HRF : Hid (RfR (fun b => w.heap.size + 1 < b) w7 ({ { Rq.of 13 with kind := kd, all := y } with run := Par.none }) .z ⟨B1, u1, v1⟩ ⟨B2, u2, v2⟩ .z ⟨A1, n1, c1⟩) := Lib.hid ⟨HRF5.out.options, goesRunR.mono HRN.out fun b hb _ => by have hb : w5.heap.size ≤ b := hb; omega, HRF5.out.events, HRF5.out.all⟩
          go_upto_region 28 with (first | (refine wpList_storeB HX5.out (by rfl) 45 _ _ (by rfl) 4 (runV (Par.none) B1 u1 v1 B2 u2 v2) (by rfl) (by rfl) (by kernel_rfl) (by show 4 + 13 ≤ 22; decide) (by rfl) ?_; intro w6 hx6 hg6; have HX6 : Hid (Bx (fun b => b = w.heap.size + 1) w6 (w.heap.size + 1) (rfV ({ { Rq.of 13 with kind := kd, all := y } with run := Par.none }) .z ⟨B1, u1, v1⟩ ⟨B2, u2, v2⟩ .z ⟨A1, n1, c1⟩)) := Lib.hid hx6; have HF6 : Hid (Fr (fun b => b = w.heap.size + 1) w7 w6) := Lib.hid (Fr.of_one hg6 rfl); clear hx6 hg6))
          clear HX5 HRF5
          have HXR6 := Lib.hid (goesBx.keep HXR.out HF6.out.size fun b hb hlt => HF6.out.block b hlt (by rw [hb]; show ¬ w.heap.size = w.heap.size + 1; omega))
          have HB6 := Lib.hid (HB.out.trans (HF6.out.below HB.out.size fun b hb e => by have e : b = w.heap.size + 1 := e; omega))
          have HRF6 := Lib.hid (goesRf.keep HRF.out HF6.out.size fun b hb hlt => HF6.out.block b hlt (by have hb : w.heap.size + 1 < b := hb; show ¬ b = w.heap.size + 1; omega))
          clear HXR HB HRF HF6
          have HXR := HXR6
          have HB := HB6
          have HRF := HRF6
          have HX := HX6
          clear HXR6 HB6 HRF6 HX6
          have hz_w6 : w.heap.size + 1 < w6.heap.size := HX.out.lt
          have HE : Hid (r = .error e) := Lib.hid (HR2.out.trans (bindR_err HRU.out))
          go_wp2_with (first | (refine wpList_loadB HX.out (by rfl) 48 _ (by rfl) (by rfl) _ Try.underlying48 rfl (by kernel_rfl) ?_) | (refine wpList_storeB HXR.out (by rfl) 48 _ _ (by rfl) 0 (rfV ({ { Rq.of 13 with kind := kd, all := y } with run := Par.none }) .z ⟨B1, u1, v1⟩ ⟨B2, u2, v2⟩ .z ⟨A1, n1, c1⟩) (by rfl) (by rfl) (by kernel_rfl) (by show 0 + 22 ≤ 22; decide) (by rfl) ?_; intro wz hxz hgz; have HXZ : Hid (Bx (fun b => b = w.heap.size) wz w.heap.size (rfV ({ { Rq.of 13 with kind := kd, all := y } with run := Par.none }) .z ⟨B1, u1, v1⟩ ⟨B2, u2, v2⟩ .z ⟨A1, n1, c1⟩)) := Lib.hid hxz; have HBZ := Lib.hid (Below.grown1 HB.out hgz HB.out.size (Nat.le_refl _)); have HRZ := Lib.hid (goesRf.mono (goesRf.keep HRF.out hgz.size fun b hb hlt => hgz.block b hlt (fun e => by injection e with e; have hb : w.heap.size + 1 < b := hb; omega)) (S' := fun b => w.heap.size ≤ b) fun b hb _ => by have hb : w.heap.size + 1 < b := hb; omega); clear hxz hgz))
          refine bodyPost_ret (results_box3 (vs := rfV ({ { Rq.of 13 with kind := kd, all := y } with run := Par.none }) .z ⟨B1, u1, v1⟩ ⟨B2, u2, v2⟩ .z ⟨A1, n1, c1⟩) rfl HXZ.out (by rfl) (by rfl) (by rfl) _ Try.underlying48 rfl (by kernel_rfl)) rfl ?_
          exact partsP_err HE.out _ _ _ _ _ _ _ HRZ.out HBZ.out
        | ok p =>
          obtain ⟨pr, rest2⟩ := p
          simp only [rval_ok, rerr_ok] at HRN ⊢
          have HRF : Hid (RfR (fun b => w.heap.size + 1 < b) w7 ({ { Rq.of 13 with kind := kd, all := y } with run := pr }) .z ⟨B1, u1, v1⟩ ⟨B2, u2, v2⟩ .z ⟨A1, n1, c1⟩) := Lib.hid ⟨HRF5.out.options, goesRunR.mono HRN.out fun b hb _ => by have hb : w5.heap.size ≤ b := hb; omega, HRF5.out.events, HRF5.out.all⟩
          go_upto_region 28 with (first | (refine wpList_storeB HX5.out (by rfl) 45 _ _ (by rfl) 4 (runV (pr) B1 u1 v1 B2 u2 v2) (by rfl) (by rfl) (by kernel_rfl) (by show 4 + 13 ≤ 22; decide) (by rfl) ?_; intro w6 hx6 hg6; have HX6 : Hid (Bx (fun b => b = w.heap.size + 1) w6 (w.heap.size + 1) (rfV ({ { Rq.of 13 with kind := kd, all := y } with run := pr }) .z ⟨B1, u1, v1⟩ ⟨B2, u2, v2⟩ .z ⟨A1, n1, c1⟩)) := Lib.hid hx6; have HF6 : Hid (Fr (fun b => b = w.heap.size + 1) w7 w6) := Lib.hid (Fr.of_one hg6 rfl); clear hx6 hg6))
          clear HX5 HRF5
          have HXR6 := Lib.hid (goesBx.keep HXR.out HF6.out.size fun b hb hlt => HF6.out.block b hlt (by rw [hb]; show ¬ w.heap.size = w.heap.size + 1; omega))
          have HB6 := Lib.hid (HB.out.trans (HF6.out.below HB.out.size fun b hb e => by have e : b = w.heap.size + 1 := e; omega))
          have HRF6 := Lib.hid (goesRf.keep HRF.out HF6.out.size fun b hb hlt => HF6.out.block b hlt (by have hb : w.heap.size + 1 < b := hb; show ¬ b = w.heap.size + 1; omega))
          clear HXR HB HRF HF6
          have HXR := HXR6
          have HB := HB6
          have HRF := HRF6
          have HX := HX6
          clear HXR6 HB6 HRF6 HX6
          have hz_w6 : w.heap.size + 1 < w6.heap.size := HX.out.lt
          have HE : Hid (r = .ok ({ { Rq.of 13 with kind := kd, all := y } with run := pr }, rest2)) := Lib.hid (HR2.out.trans (bindR_ok HRU.out))
          go_wp2_with (first | (refine wpList_loadB HX.out (by rfl) 48 _ (by rfl) (by rfl) _ Try.underlying48 rfl (by kernel_rfl) ?_) | (refine wpList_storeB HXR.out (by rfl) 48 _ _ (by rfl) 0 (rfV ({ { Rq.of 13 with kind := kd, all := y } with run := pr }) .z ⟨B1, u1, v1⟩ ⟨B2, u2, v2⟩ .z ⟨A1, n1, c1⟩) (by rfl) (by rfl) (by kernel_rfl) (by show 0 + 22 ≤ 22; decide) (by rfl) ?_; intro wz hxz hgz; have HXZ : Hid (Bx (fun b => b = w.heap.size) wz w.heap.size (rfV ({ { Rq.of 13 with kind := kd, all := y } with run := pr }) .z ⟨B1, u1, v1⟩ ⟨B2, u2, v2⟩ .z ⟨A1, n1, c1⟩)) := Lib.hid hxz; have HBZ := Lib.hid (Below.grown1 HB.out hgz HB.out.size (Nat.le_refl _)); have HRZ := Lib.hid (goesRf.mono (goesRf.keep HRF.out hgz.size fun b hb hlt => hgz.block b hlt (fun e => by injection e with e; have hb : w.heap.size + 1 < b := hb; omega)) (S' := fun b => w.heap.size ≤ b) fun b hb _ => by have hb : w.heap.size + 1 < b := hb; omega); clear hxz hgz))
          refine bodyPost_ret (results_box3 (vs := rfV ({ { Rq.of 13 with kind := kd, all := y } with run := pr }) .z ⟨B1, u1, v1⟩ ⟨B2, u2, v2⟩ .z ⟨A1, n1, c1⟩) rfl HXZ.out (by rfl) (by rfl) (by rfl) _ Try.underlying48 rfl (by kernel_rfl)) rfl ?_
          exact partsP_ok HE.out _ _ _ _ _ _ HQ5.out.le HQ5.out.drop HRZ.out HBZ.out
set_option maxHeartbeats 8000000 in
set_option maxRecDepth 100000 in
theorem rparts8_not {S : Nat → Prop} {A : Option Addr} {m c op : Nat} {bs : B} {w : World} (hs : Sl S w A m c bs) (hop : op < 256) (hk : ¬ (op = 1 ∨ op = 5 ∨ op = 7 ∨ op = 9 ∨ op = 10 ∨ op = 11 ∨ op = 15 ∨ op = 13)) (r : Res Rq) (hr : getParts op bs = r) :
    Calls Try.prog 48 #[.int .u8 (op : Int), .slice A m c] w fun e w' => PartsP w bs r e w' := by
  have HE : Hid (r = .error 22) := Lib.hid (hr.symm.trans (gpNot hk))
  clear hr
  have d1 : ((op : Int) == 1) = false := by rw [beq_eq_false_iff_ne]; omega
  have d5 : ((op : Int) == 5) = false := by rw [beq_eq_false_iff_ne]; omega
  have d7 : ((op : Int) == 7) = false := by rw [beq_eq_false_iff_ne]; omega
  have d9 : ((op : Int) == 9) = false := by rw [beq_eq_false_iff_ne]; omega
  have d10 : ((op : Int) == 10) = false := by rw [beq_eq_false_iff_ne]; omega
  have d11 : ((op : Int) == 11) = false := by rw [beq_eq_false_iff_ne]; omega
  have d15 : ((op : Int) == 15) = false := by rw [beq_eq_false_iff_ne]; omega
  have d13 : ((op : Int) == 13) = false := by rw [beq_eq_false_iff_ne]; omega
  clear hk hs
  go_enter Try.func48, Try.ntmps48
  go_upto_region 2 with (first | (refine wpList_built (by rfl) 48 _ (by rfl) #[.int .u8 (op : Int), .slice none 0 0, .string ⟨#[]⟩, .string ⟨#[]⟩, .int .u16 0, .slice none 0 0, .slice none 0 0, .bool false, .bool false, .int .i32 0, .bool false, .int .i64 0, .string ⟨#[]⟩, .bool false, .int .u16 0, .bool false, .int .i64 0, .slice none 0 0, .int .i64 0, .string ⟨#[]⟩, .int .u8 0, .slice none 0 0] (by kernel_rfl) ?_) | (refine wpList_store_newB (by rfl) 48 _ _ (by rfl) _ _ _ _ (by rfl) (by rfl) (by simp) (by rfl) (by kernel_rfl) (by rfl) (by rfl) ?_; intro w2 hb2 hz2 hx2; have HXR2 : Hid (Bx (fun b => b = w.heap.size) w2 w.heap.size zeroR) := Lib.hid (goesBx.after (Bx.alloc w #[.int .u8 0, .slice none 0 0, .string ⟨#[]⟩, .string ⟨#[]⟩, .int .u16 0, .slice none 0 0, .slice none 0 0, .bool false, .bool false, .int .i32 0, .bool false, .int .i64 0, .string ⟨#[]⟩, .bool false, .int .u16 0, .bool false, .int .i64 0, .slice none 0 0, .int .i64 0, .string ⟨#[]⟩, .int .u8 0, .slice none 0 0] 48 (S := fun b => b = w.heap.size) rfl rfl) hb2); have HB2 := Lib.hid (((Below.refl w.heap.size w).alloc (Nat.le_refl _) (.cells #[.int .u8 0, .slice none 0 0, .string ⟨#[]⟩, .string ⟨#[]⟩, .int .u16 0, .slice none 0 0, .slice none 0 0, .bool false, .bool false, .int .i32 0, .bool false, .int .i64 0, .string ⟨#[]⟩, .bool false, .int .u16 0, .bool false, .int .i64 0, .slice none 0 0, .int .i64 0, .string ⟨#[]⟩, .int .u8 0, .slice none 0 0] 48)).trans (hb2.mono (by simp))); clear hb2 hz2 hx2))
  go_wp2_with (first | (refine wpList_built (by rfl) 48 _ (by rfl) #[.int .u8 0, .slice none 0 0, .string ⟨#[]⟩, .string ⟨#[]⟩, .int .u16 0, .slice none 0 0, .slice none 0 0, .bool false, .bool false, .int .i32 0, .bool false, .int .i64 0, .string ⟨#[]⟩, .bool false, .int .u16 0, .bool false, .int .i64 0, .slice none 0 0, .int .i64 0, .string ⟨#[]⟩, .int .u8 0, .slice none 0 0] (by kernel_rfl) ?_) | (refine wpList_storeB HXR2.out (by rfl) 48 _ _ (by rfl) 0 zeroR (by rfl) (by rfl) (by kernel_rfl) (by show 0 + 22 ≤ 22; decide) (by rfl) ?_; intro wz hxz hgz; have HXZ : Hid (Bx (fun b => b = w.heap.size) wz w.heap.size zeroR) := Lib.hid hxz; have HBZ := Lib.hid (Below.grown1 HB2.out hgz HB2.out.size (Nat.le_refl _)); clear hxz hgz))
  refine bodyPost_ret (results_box3 (vs := zeroR) rfl HXZ.out (by rfl) (by rfl) (by rfl) _ Try.underlying48 rfl (by kernel_rfl)) rfl ?_
  exact partsP_err HE.out Rq.none .z .z .z .z .z 0 (rfR_none 0) HBZ.out
theorem rparts8_any {S : Nat → Prop} {A : Option Addr} {m c op : Nat} {bs : B} {w : World} (hs : Sl S w A m c bs) (hm : m ≤ 140737488355328) (hop : op < 256) (r : Res Rq) (hr : getParts op bs = r) :
    Calls Try.prog 48 #[.int .u8 (op : Int), .slice A m c] w fun e w' => PartsP w bs r e w' := by
  by_cases hk : op = 1 ∨ op = 5 ∨ op = 7 ∨ op = 9 ∨ op = 10 ∨ op = 11 ∨ op = 15 ∨ op = 13
  · rcases hk with rfl | rfl | rfl | rfl | rfl | rfl | rfl | rfl
    · exact rparts8_1 hs hm r hr
    · exact rparts8_5 hs hm r hr
    · exact rparts8_7 hs hm r hr
    · exact rparts8_9 hs hm r hr
    · exact rparts8_10 hs hm r hr
    · exact rparts8_11 hs hm r hr
    · exact rparts8_15 hs hm r hr
    · exact rparts8_13 hs hm r hr
  · exact rparts8_not hs hop hk r hr
set_option maxHeartbeats 8000000 in
set_option maxRecDepth 100000 in
theorem rGet8_any {S : Nat → Prop} {A : Option Addr} {m c op : Nat} {bs : B} {w : World} (hs : Sl S w A m c bs) (hm : m ≤ 140737488355328) (hop : op < 256) (r : Except Int Rq) (hr : getRq op bs = r) :
    Calls Try.prog 15 #[.int .u8 (op : Int), .slice A m c] w fun e w' => ∃ o r1 r2 ev al, e = .returned (.tuple #[.agg (rfV (rqOf r) o r1 r2 ev al).toArray, .int .i64 (erOf r)]) ∧ RfR (fun b => w.heap.size ≤ b) w' (rqOf r) o r1 r2 ev al ∧ Below w.heap.size w w' := by
  have hlb := Lib.hid hs.len
  have hcp := hs.cap
  have hcm := hs.capMax
  have HS := Lib.hid hs.lt; clear hs
  have HR := Lib.hid hr; clear hr
  obtain ⟨rp, hrp⟩ : ∃ z, getParts op bs = z := ⟨_, rfl⟩
  have HRP := Lib.hid hrp; clear hrp
  go_enter Try.func15, Try.ntmps15
  go_wp2_with fail
  refine (rparts8_any (HS.out.fin ((Below.refl w.heap.size w).alloc (Nat.le_refl _) (.cells #[.int .u8 0, .slice none 0 0, .string ⟨#[]⟩, .string ⟨#[]⟩, .int .u16 0, .slice none 0 0, .slice none 0 0, .bool false, .bool false, .int .i32 0, .bool false, .int .i64 0, .string ⟨#[]⟩, .bool false, .int .u16 0, .bool false, .int .i64 0, .slice none 0 0, .int .i64 0, .string ⟨#[]⟩, .int .u8 0, .slice none 0 0] 48))) hm hop rp HRP.out).mono ?_
  rintro e w2 ⟨x, o, r1, r2, ev, al, q, rfl, hrf, hok, hb2⟩
  have HXR : Hid (Bx (fun b => b = w.heap.size) w2 w.heap.size zeroR) := Lib.hid (goesBx.after (Bx.alloc w #[.int .u8 0, .slice none 0 0, .string ⟨#[]⟩, .string ⟨#[]⟩, .int .u16 0, .slice none 0 0, .slice none 0 0, .bool false, .bool false, .int .i32 0, .bool false, .int .i64 0, .string ⟨#[]⟩, .bool false, .int .u16 0, .bool false, .int .i64 0, .slice none 0 0, .int .i64 0, .string ⟨#[]⟩, .int .u8 0, .slice none 0 0] 48 (S := fun b => b = w.heap.size) rfl rfl) hb2)
  have HB2 := Lib.hid (((Below.refl w.heap.size w).alloc (Nat.le_refl _) (.cells #[.int .u8 0, .slice none 0 0, .string ⟨#[]⟩, .string ⟨#[]⟩, .int .u16 0, .slice none 0 0, .slice none 0 0, .bool false, .bool false, .int .i32 0, .bool false, .int .i64 0, .string ⟨#[]⟩, .bool false, .int .u16 0, .bool false, .int .i64 0, .slice none 0 0, .int .i64 0, .string ⟨#[]⟩, .int .u8 0, .slice none 0 0] 48)).trans (hb2.mono (by simp)))
  have HRF := Lib.hid (goesRf.mono (S' := fun b => w.heap.size < b) hrf fun b hb _ => by rw [World.size_alloc] at hb; omega)
  have HOK := Lib.hid hok
  clear hrf hok hb2
  have hz2 : w.heap.size < w2.heap.size := HXR.out.lt
  obtain ⟨V, hV⟩ : ∃ V, V = rfV x o r1 r2 ev al := ⟨_, rfl⟩
  rw [← hV]
  have hVl : V.length = 22 := by rw [hV]; rfl
  have HV1 : Hid (V.all (·.oneCell') = true) := Lib.hid (by rw [hV]; rfl)
  have HVL := Lib.hid hVl; clear hVl
  have HV := Lib.hid hV; clear hV
  go_upto_region 2 with (first | (refine wpList_store_newB (g := w2.heap.size) (by rfl) 48 (.tmp 6) (.tmp 13) (by rfl) w2 48 _ V.toArray (by rfl) ?g2 ?g3 ?g4 ?g5 ?g6 ?g7 ?g8; ((case g2 => rfl); (case g3 => rfl); (case g4 => rfl); (case g5 => (show _ = some V.length; rw [HVL.out]; kernel_rfl)); (case g6 => (show _ = V.length; rw [HVL.out]; rfl)); (case g7 => exact HV1.out); intro w3 hb3 hz3 hx3; have HX3 : Hid (Bx (fun b => b = w2.heap.size) w3 w2.heap.size V) := Lib.hid hx3; have HXR3 := Lib.hid (goesBx.after HXR.out hb3); have HRF3 := Lib.hid (goesRf.after HRF.out hb3); have HB3 := Lib.hid (HB2.out.trans (hb3.mono HB2.out.size)); clear hb3 hz3 hx3)))
  have hz3 : w.heap.size < w3.heap.size := HXR3.out.lt
  cases rp with
  | error e =>
    have hne : (e == 0) = false := by simpa using nzParts op _ _ HRP.out
    have hne2 : (e != 0) = true := by simpa using nzParts op _ _ HRP.out
    have HE : Hid (r = .error e) := Lib.hid (HR.out.symm.trans (by unfold getRq; rw [HRP.out]))
    simp only [rerr_error]
    go_wp2_with (first | (refine wpList_built (by rfl) 48 _ (by rfl) #[.int .u8 0, .slice none 0 0, .string ⟨#[]⟩, .string ⟨#[]⟩, .int .u16 0, .slice none 0 0, .slice none 0 0, .bool false, .bool false, .int .i32 0, .bool false, .int .i64 0, .string ⟨#[]⟩, .bool false, .int .u16 0, .bool false, .int .i64 0, .slice none 0 0, .int .i64 0, .string ⟨#[]⟩, .int .u8 0, .slice none 0 0] (by kernel_rfl) ?_) | (refine wpList_storeB HXR3.out (by rfl) 48 _ _ (by rfl) 0 zeroR (by rfl) (by rfl) (by kernel_rfl) (by show 0 + 22 ≤ 22; decide) (by rfl) ?_; intro wz hxz hgz; have HXZ : Hid (Bx (fun b => b = w.heap.size) wz w.heap.size zeroR) := Lib.hid hxz; have HBZ := Lib.hid (Below.grown1 HB3.out hgz HB3.out.size (Nat.le_refl _)); clear hxz hgz))
    refine bodyPost_ret (results_box (vs := zeroR) rfl HXZ.out (by rfl) (by rfl) _ Try.underlying48 rfl (by kernel_rfl)) rfl ?_
    rw [HE.out]
    exact ⟨.z, .z, .z, .z, .z, rfl, rfR_none 0, HBZ.out⟩
  | ok p =>
    obtain ⟨y, rest⟩ := p
    obtain ⟨hxy, hq, hd⟩ := HOK.out y rest rfl
    have hlr := congrArg List.length hd
    rw [List.length_drop] at hlr
    simp only [rerr_ok]
    by_cases hl : rest.length = 0
    · have HE : Hid (r = .ok x) := Lib.hid (HR.out.symm.trans (by unfold getRq; rw [HRP.out]; simp only; rw [if_pos hl, hxy]))
      have hqm : q = m := by have := hlb.out; omega
      have hne : ((q : Int) != (m : Int)) = false := by simp [hqm]
      clear hxy hd hq hlr hl hqm
      go_wp2_with (first | (refine wpList_loadB HX3.out (by rfl) 48 _ (by rfl) (by rfl) _ Try.underlying48 rfl (by rw [HVL.out]; kernel_rfl) ?_) | (refine wpList_storeB HXR3.out (by rfl) 48 _ _ (by rfl) 0 V (by rfl) (by rfl) (by rw [HVL.out]; kernel_rfl) (by rw [HVL.out]; show 0 + 22 ≤ 22; decide) HV1.out ?_; intro wz hxz hgz; have HXZ : Hid (Bx (fun b => b = w.heap.size) wz w.heap.size V) := Lib.hid (by have h := hxz; rw [HVL.out] at h; simpa [zeroR] using h); have HBZ := Lib.hid (Below.grown1 HB3.out hgz HB3.out.size (Nat.le_refl _)); have HRZ := Lib.hid (goesRf.mono (goesRf.keep HRF3.out hgz.size fun b hb hlt => hgz.block b hlt (fun e => by injection e with e; have hb : w.heap.size < b := hb; omega)) (S' := fun b => w.heap.size ≤ b) fun b hb _ => by have hb : w.heap.size < b := hb; omega); clear hxz hgz))
      refine bodyPost_ret (results_box (vs := V) rfl HXZ.out (by rfl) (by rfl) _ Try.underlying48 rfl (by rw [HVL.out]; kernel_rfl)) rfl ?_
      rw [HE.out, HV.out]
      exact ⟨o, r1, r2, ev, al, rfl, HRZ.out, HBZ.out⟩
    · have HE : Hid (r = .error 23) := Lib.hid (HR.out.symm.trans (by unfold getRq; rw [HRP.out]; simp only; rw [if_neg hl]))
      have hqm : q ≠ m := by have := hlb.out; omega
      have hne : ((q : Int) != (m : Int)) = true := by rw [bne_iff_ne]; omega
      clear hxy hd hq hlr hl hqm
      go_wp2_with (first | (refine wpList_built (by rfl) 48 _ (by rfl) #[.int .u8 0, .slice none 0 0, .string ⟨#[]⟩, .string ⟨#[]⟩, .int .u16 0, .slice none 0 0, .slice none 0 0, .bool false, .bool false, .int .i32 0, .bool false, .int .i64 0, .string ⟨#[]⟩, .bool false, .int .u16 0, .bool false, .int .i64 0, .slice none 0 0, .int .i64 0, .string ⟨#[]⟩, .int .u8 0, .slice none 0 0] (by kernel_rfl) ?_) | (refine wpList_storeB HXR3.out (by rfl) 48 _ _ (by rfl) 0 zeroR (by rfl) (by rfl) (by kernel_rfl) (by show 0 + 22 ≤ 22; decide) (by rfl) ?_; intro wz hxz hgz; have HXZ : Hid (Bx (fun b => b = w.heap.size) wz w.heap.size zeroR) := Lib.hid hxz; have HBZ := Lib.hid (Below.grown1 HB3.out hgz HB3.out.size (Nat.le_refl _)); clear hxz hgz))
      refine bodyPost_ret (results_box (vs := zeroR) rfl HXZ.out (by rfl) (by rfl) _ Try.underlying48 rfl (by kernel_rfl)) rfl ?_
      rw [HE.out]
      exact ⟨.z, .z, .z, .z, .z, rfl, rfR_none 0, HBZ.out⟩
end Go.Proofs.Sb
