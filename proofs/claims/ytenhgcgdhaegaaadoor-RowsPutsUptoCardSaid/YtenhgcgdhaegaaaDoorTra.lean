/- Walks over signalboxref10.count, names. Conditions: lengths up to 2^47. -/
import Derived.Test.YtenhgcgdhaegaaaDoorTak
import Derived.Test.YtenhgcgdhaegaaaDoorRefb
import Derived.Deep.CutBlock
set_option linter.unusedVariables false
set_option linter.unusedSimpArgs false
namespace Go.Proofs.Sb
open Go.RowKit _root_.Sb
theorem cntT_err {b : B} {e : Int} (h : getNum b = .error e) : getCnt b = .error e := by unfold getCnt; exact bindR_err h
theorem cntT_ok {b b1 : B} {n : Int} (h : getNum b = .ok (n, b1)) : getCnt b = if decide (0 ≤ n) = false then .error 11 else if decide (n ≤ 4096) = false then .error 12 else .ok (n.toNat, b1) := by unfold getCnt; exact bindR_ok h
set_option maxHeartbeats 1000000 in
set_option maxRecDepth 100000 in
theorem rcnt10_any {S : Nat → Prop} {A : Option Addr} {m c a : Nat} {bs : B} {w : World} (hs : Sl S w A m c bs) (ha : a ≤ m) (r : Res Nat) (hr : getCnt (bs.drop a) = r) :
    Calls Tryd.prog 28 #[.slice A m c, .int .i64 (a : Int)] w fun e w' => ∃ q : Nat, e = .returned (.tuple #[.int .i64 (rval 0 r : Nat), .int .i64 (q : Int), .int .i64 (rerr r)]) ∧ AtR bs q r ∧ Below w.heap.size w w' := by
  subst hr
  cases h : getNum (bs.drop a) with
  | error e =>
    have hne : (e != 0) = true := by simpa using nzNum _ _ h
    rw [cntT_err h]
    have HG := Lib.hid h; clear h
    go_enter Tryd.func28, Tryd.ntmps28
    go_wp2_with fail
    refine (rnumber_any hs ha _ HG.out).mono ?_
    rintro e w1 ⟨q, rfl, hq, hb⟩
    simp only [rval_error, rerr_error]
    go_wp2_with fail
    go_ret3
    exact ⟨0, rfl, AtR.err, hb⟩
  | ok p =>
    obtain ⟨n, b1⟩ := p
    have hrw := cntT_ok h
    have hn1 := (getNum_ok h).2.2.1
    have hn2 := (getNum_ok h).2.2.2.1
    have HG := Lib.hid h; clear h
    by_cases h0 : 0 ≤ n
    · by_cases h4 : n ≤ 4096
      · rw [decide_eq_true h0, decide_eq_true h4] at hrw
        rw [hrw]
        clear hrw
        obtain ⟨k, rfl⟩ : ∃ k : Nat, n = (k : Int) := ⟨n.toNat, by omega⟩
        go_enter Tryd.func28, Tryd.ntmps28
        go_wp2_with fail
        refine (rnumber_any hs ha _ HG.out).mono ?_
        rintro e w1 ⟨q, rfl, hq, hb⟩
        simp only [rval_ok, rerr_ok]
        go_wp2_with fail
        go_ret3
        exact ⟨q, rfl, AtR.ok hq.le hq.drop, hb⟩
      · rw [decide_eq_true h0, decide_eq_false h4] at hrw
        rw [hrw]
        clear hrw
        go_enter Tryd.func28, Tryd.ntmps28
        go_wp2_with fail
        refine (rnumber_any hs ha _ HG.out).mono ?_
        rintro e w1 ⟨q, rfl, hq, hb⟩
        simp only [rval_ok, rerr_ok]
        go_wp2_with fail
        go_ret3
        exact ⟨0, rfl, AtR.err, hb⟩
    · rw [decide_eq_false h0] at hrw
      rw [hrw]
      clear hrw
      go_enter Tryd.func28, Tryd.ntmps28
      go_wp2_with fail
      refine (rnumber_any hs ha _ HG.out).mono ?_
      rintro e w1 ⟨q, rfl, hq, hb⟩
      simp only [rval_ok, rerr_ok]
      go_wp2_with fail
      go_ret3
      exact ⟨0, rfl, AtR.err, hb⟩
/-- a function whose first result lies in a box, the second and third in slots -/
theorem results_boxT3 {P : Program} {w : World} {S : Nat → Prop} {fn : Func} {p u v : Tmp} {ty : TypeId} (h : fn.results = #[.cell p ty, .tmp u, .tmp v]) {X : Nat} {vs : List Value} (hB : Bx S w X vs) {tmps : Array Value} (hp : tmps.getD p undef = .pointer (some ⟨X, 0, none⟩)) {x y : Value} (hx : tmps.getD u undef = x) (hy : tmps.getD v undef = y) (d : TypeDesc)
    (hu : P.underlying ty = some d) (hd : d.isRow = true) (hi : (P.info? ty).map (·.size) = some vs.length) : (results fn tmps).run P w = .ok (.tuple #[.agg vs.toArray, x, y]) w := by
  have h1 := run_loadVar_mid (P := P) w X 0 ty vs d hB.range hu hd hi
  have hp' : tmps[p]?.getD undef = .pointer (some ⟨X, 0, none⟩) := by simpa using hp
  have hx' : tmps[u]?.getD undef = x := by simpa using hx
  have hy' : tmps[v]?.getD undef = y := by simpa using hy
  simp [results, h, hp', hx', hy', asAddr, h1, Sem.run_bind, Result.andThen]
def NmsIs (r : Res (B × B)) (s t : B) : Prop := ∀ p b, r = .ok (p, b) → p = (s, t)
theorem NmsIs.err {e : Int} {s t : B} : NmsIs (.error e) s t := fun _ _ h => by cases h
theorem NmsIs.ok {s t b : B} : NmsIs (.ok ((s, t), b)) s t := fun _ _ h => by cases h; rfl
/-- a column of the reference with a space and a table alone -/
def nmC (s t : B) : List Value := [.string (str s), .string (str t), .string ⟨#[]⟩, .int .u16 0, .string ⟨#[]⟩, .string ⟨#[]⟩, .slice none 0 0, .slice none 0 0]
theorem nmsT_err1 {b : B} {e : Int} (h : getText b = .error e) : nmsR b = .error e := by unfold nmsR; rw [eqBoth]; exact bindR_err h
theorem nmsT_ok1 {b b1 : B} {s : B} (h : getText b = .ok (s, b1)) : nmsR b = bindR (getText b1) fun t r => .ok ((s, t), r) := by unfold nmsR; rw [eqBoth]; exact bindR_ok h
set_option maxHeartbeats 4000000 in
set_option maxRecDepth 100000 in
theorem rnms10_any {S : Nat → Prop} {A : Option Addr} {m c a : Nat} {bs : B} {w : World} (hs : Sl S w A m c bs) (hm : m ≤ 140737488355328) (ha : a ≤ m) (r : Res (B × B)) (hr : nmsR (bs.drop a) = r) :
    Calls Tryd.prog 56 #[.slice A m c, .int .i64 (a : Int)] w fun e w' => ∃ (s t : B) (q : Nat), e = .returned (.tuple #[.agg (nmC s t).toArray, .int .i64 (q : Int), .int .i64 (rerr r)]) ∧ NmsIs r s t ∧ AtR bs q r ∧ Below w.heap.size w w' := by
  have HS := Lib.hid hs.lt
  have hlb := Lib.hid hs.len
  clear hs
  have HR := Lib.hid hr; clear hr
  obtain ⟨r1, hr1⟩ : ∃ z, getText (bs.drop a) = z := ⟨_, rfl⟩
  have HR1 := Lib.hid hr1; clear hr1
  go_enter Tryd.func56, Tryd.ntmps56
  go_upto_region 2 with fail
  obtain ⟨w2, hw2⟩ : ∃ w2, w2 = (w.alloc (.cells #[.string ⟨#[]⟩, .string ⟨#[]⟩, .string ⟨#[]⟩, .int .u16 0, .string ⟨#[]⟩, .string ⟨#[]⟩, .slice none 0 0, .slice none 0 0] 87)).alloc (.cells #[.string ⟨#[]⟩, .string ⟨#[]⟩, .string ⟨#[]⟩, .int .u16 0, .string ⟨#[]⟩, .string ⟨#[]⟩, .slice none 0 0, .slice none 0 0] 87) := ⟨_, rfl⟩
  rw [← hw2]
  have HB2 : Hid (Below w.heap.size w w2) := by rw [hw2]; exact ((Below.refl _ _).alloc (Nat.le_refl _) _).alloc (by simp) _
  have HXR : Hid (Bx (fun b => b = w.heap.size) w2 w.heap.size (nmC [] [])) := by
    rw [hw2]
    exact goesBx.after (Bx.alloc w #[.string ⟨#[]⟩, .string ⟨#[]⟩, .string ⟨#[]⟩, .int .u16 0, .string ⟨#[]⟩, .string ⟨#[]⟩, .slice none 0 0, .slice none 0 0] 87 (S := fun b => b = w.heap.size) rfl rfl) ((Below.refl _ _).alloc (Nat.le_refl _) _)
  have HXP : Hid (Bx (fun b => b = w.heap.size + 1) w2 (w.heap.size + 1) (nmC [] [])) := by
    rw [hw2]
    exact Bx.alloc (w.alloc _) #[.string ⟨#[]⟩, .string ⟨#[]⟩, .string ⟨#[]⟩, .int .u16 0, .string ⟨#[]⟩, .string ⟨#[]⟩, .slice none 0 0, .slice none 0 0] 87 (S := fun b => b = w.heap.size + 1) (by simp) (by simp)
  clear hw2
  have hz2 : w.heap.size + 1 < w2.heap.size := HXP.out.lt
  go_wp2_with fail
  refine (rgetText_any (HS.out.fin HB2.out) hm ha r1 HR1.out).mono ?_
  rintro e w3 ⟨q0, rfl, hq0, rfl⟩
  have HQ0 := Lib.hid hq0; clear hq0
  cases r1 with
  | error e =>
    have hne : (e != 0) = true := by simpa using nzText _ _ HR1.out
    have HE : Hid (r = .error e) := by have h := HR.out; rw [nmsT_err1 HR1.out] at h; exact h.symm
    simp only [rval_error, rerr_error]
    go_wp2_with (first | (refine wpList_loadB HXP.out (by rfl) 87 _ (by rfl) (by rfl) _ Tryd.underlying87 rfl (by kernel_rfl) ?_) | (refine wpList_storeB HXR.out (by rfl) 87 _ _ (by rfl) 0 (nmC [] []) (by rfl) (by rfl) (by kernel_rfl) (by show 0 + 8 ≤ 8; decide) (by rfl) ?_; intro wz hxz hgz; have HXZ : Hid (Bx (fun b => b = w.heap.size) wz w.heap.size (nmC [] [])) := Lib.hid hxz; have HBZ := Lib.hid (Below.grown1 HB2.out hgz HB2.out.size (Nat.le_refl _)); clear hxz hgz))
    refine bodyPost_ret (results_boxT3 (vs := nmC [] []) rfl HXZ.out (by rfl) (by rfl) (by rfl) _ Tryd.underlying87 rfl (by kernel_rfl)) rfl ?_
    rw [HE.out]
    exact ⟨[], [], 0, rfl, NmsIs.err, AtR.err, HBZ.out⟩
  | ok p =>
    obtain ⟨s, b1⟩ := p
    have hq0m : q0 ≤ m := by have := HQ0.out.le; have := hlb.out; omega
    have HD0 := Lib.hid HQ0.out.drop
    clear HQ0
    have HR2 : Hid (bindR (getText b1) (fun t r => (.ok ((s, t), r) : Res (B × B))) = r) := by have h := HR.out; rw [nmsT_ok1 HR1.out] at h; exact h
    clear HR
    simp only [rval_ok, rerr_ok]
    obtain ⟨r2, hr2⟩ : ∃ z, getText b1 = z := ⟨_, rfl⟩
    have HRX := Lib.hid hr2; clear hr2
    have k0 := HXP.out.c 0 _ rfl
    have f0 := HXP.out.fr 0
    go_wp2_with fail
    have HXP3 : Hid (Bx (fun b => b = w.heap.size + 1) (w2.setCell ⟨w.heap.size + 1, 0, none⟩ (.string (str s))) (w.heap.size + 1) (nmC s [])) := Lib.hid (HXP.out.put 0 _ (by show 0 < 8; decide))
    have HFS : Hid (Fr (fun b => b = w.heap.size + 1) w2 (w2.setCell ⟨w.heap.size + 1, 0, none⟩ (.string (str s)))) := Lib.hid (HXP.out.frPut 0 _)
    obtain ⟨w3, hw3⟩ : ∃ wo, wo = w2.setCell ⟨w.heap.size + 1, 0, none⟩ (.string (str s)) := ⟨_, rfl⟩
    rw [← hw3] at HXP3 HFS ⊢
    clear hw3 k0 f0
    have HXR3 : Hid (Bx (fun b => b = w.heap.size) w3 w.heap.size (nmC [] [])) := Lib.hid (goesBx.keep HXR.out HFS.out.size fun b hb hlt => HFS.out.block b hlt (by rw [hb]; show ¬ w.heap.size = w.heap.size + 1; omega))
    have HB3 : Hid (Below w.heap.size w w3) := Lib.hid (HB2.out.trans (HFS.out.below HB2.out.size fun b hb e => by have e : b = w.heap.size + 1 := e; omega))
    have hz3 : w.heap.size + 1 < w3.heap.size := HXP3.out.lt
    clear HXP HFS HXR HB2 hz2
    refine (rgetText_any (HS.out.fin HB3.out) hm hq0m r2 (by rw [HD0.out]; exact HRX.out)).mono ?_
    rintro e w4 ⟨q1, rfl, hq1, rfl⟩
    have HQ1 := Lib.hid hq1; clear hq1
    cases r2 with
    | error e =>
      have hne : (e != 0) = true := by simpa using nzText _ _ HRX.out
      have HE : Hid (r = .error e) := by have h := HR2.out; rw [bindR_err HRX.out] at h; exact h.symm
      simp only [rval_error, rerr_error]
      go_wp2_with (first | (refine wpList_loadB HXP3.out (by rfl) 87 _ (by rfl) (by rfl) _ Tryd.underlying87 rfl (by kernel_rfl) ?_) | (refine wpList_storeB HXR3.out (by rfl) 87 _ _ (by rfl) 0 (nmC s []) (by rfl) (by rfl) (by kernel_rfl) (by show 0 + 8 ≤ 8; decide) (by rfl) ?_; intro wz hxz hgz; have HXZ : Hid (Bx (fun b => b = w.heap.size) wz w.heap.size (nmC s [])) := Lib.hid hxz; have HBZ := Lib.hid (Below.grown1 HB3.out hgz HB3.out.size (Nat.le_refl _)); clear hxz hgz))
      refine bodyPost_ret (results_boxT3 (vs := nmC s []) rfl HXZ.out (by rfl) (by rfl) (by rfl) _ Tryd.underlying87 rfl (by kernel_rfl)) rfl ?_
      rw [HE.out]
      exact ⟨s, [], 0, rfl, NmsIs.err, AtR.err, HBZ.out⟩
    | ok p =>
      obtain ⟨t, b2⟩ := p
      have HE : Hid (r = .ok ((s, t), b2)) := by have h := HR2.out; rw [bindR_ok HRX.out] at h; exact h.symm
      have HD1 := Lib.hid HQ1.out.drop
      have HL1 := Lib.hid HQ1.out.le
      clear HQ1 HR2
      simp only [rval_ok, rerr_ok]
      have k1 := HXP3.out.c 1 _ rfl
      have f1 := HXP3.out.fr 1
      go_upto_region 10 with fail
      have HXP4 : Hid (Bx (fun b => b = w.heap.size + 1) (w3.setCell ⟨w.heap.size + 1, 1, none⟩ (.string (str t))) (w.heap.size + 1) (nmC s t)) := Lib.hid (HXP3.out.put 1 _ (by show 1 < 8; decide))
      have HFS : Hid (Fr (fun b => b = w.heap.size + 1) w3 (w3.setCell ⟨w.heap.size + 1, 1, none⟩ (.string (str t)))) := Lib.hid (HXP3.out.frPut 1 _)
      obtain ⟨w4, hw4⟩ : ∃ wo, wo = w3.setCell ⟨w.heap.size + 1, 1, none⟩ (.string (str t)) := ⟨_, rfl⟩
      rw [← hw4] at HXP4 HFS ⊢
      clear hw4 k1 f1
      have HXR4 : Hid (Bx (fun b => b = w.heap.size) w4 w.heap.size (nmC [] [])) := Lib.hid (goesBx.keep HXR3.out HFS.out.size fun b hb hlt => HFS.out.block b hlt (by rw [hb]; show ¬ w.heap.size = w.heap.size + 1; omega))
      have HB4 : Hid (Below w.heap.size w w4) := Lib.hid (HB3.out.trans (HFS.out.below HB3.out.size fun b hb e => by have e : b = w.heap.size + 1 := e; omega))
      have hz4 : w.heap.size + 1 < w4.heap.size := HXP4.out.lt
      clear HXP3 HFS HXR3 HB3 hz3
      go_wp2_with (first | (refine wpList_loadB HXP4.out (by rfl) 87 _ (by rfl) (by rfl) _ Tryd.underlying87 rfl (by kernel_rfl) ?_) | (refine wpList_storeB HXR4.out (by rfl) 87 _ _ (by rfl) 0 (nmC s t) (by rfl) (by rfl) (by kernel_rfl) (by show 0 + 8 ≤ 8; decide) (by rfl) ?_; intro wz hxz hgz; have HXZ : Hid (Bx (fun b => b = w.heap.size) wz w.heap.size (nmC s t)) := Lib.hid hxz; have HBZ := Lib.hid (Below.grown1 HB4.out hgz HB4.out.size (Nat.le_refl _)); clear hxz hgz))
      refine bodyPost_ret (results_boxT3 (vs := nmC s t) rfl HXZ.out (by rfl) (by rfl) (by rfl) _ Tryd.underlying87 rfl (by kernel_rfl)) rfl ?_
      rw [HE.out]
      exact ⟨s, t, q1, rfl, NmsIs.ok, AtR.ok HL1.out HD1.out, HBZ.out⟩
end Go.Proofs.Sb
