/- Walk over signalboxref10.GetMeta. Conditions: lengths up to 2^47. (written by gen_tre.py) -/
import Derived.Test.YtenhgcgdhaegaaaDoorTrd
set_option linter.unusedVariables false
set_option linter.unusedSimpArgs false
namespace Sb
theorem getMeta_e1 {b : B} {e : Int} (h : colsR true b = .error e) : getMeta b = .error e := endR_err (by unfold metaR; exact bindR_err h)
theorem getMeta_e2 {b b1 : B} {p : Tb × List Nat} {e : Int} (h : colsR true b = .ok (p, b1)) (h2 : colsR false b1 = .error e) : getMeta b = .error e := endR_err (by unfold metaR; rw [bindR_ok h]; exact bindR_err h2)
theorem getMeta_o {b b1 b2 : B} {p p2 : Tb × List Nat} (h : colsR true b = .ok (p, b1)) (h2 : colsR false b1 = .ok (p2, b2)) : getMeta b = if b2.length = 0 then .ok (p.2, p.1, p2.1) else .error 23 := by
  have e : metaR b = .ok ((p.2, p.1, p2.1), b2) := by unfold metaR; rw [bindR_ok h]; exact bindR_ok h2
  unfold getMeta endR
  rw [e]
end Sb
namespace Go.Proofs.Sb
open Go.RowKit _root_.Sb
/-- a function whose first two results lie in boxes, two more in slots -/
theorem results_bb2 {P : Program} {w : World} {S S2 : Nat → Prop} {fn : Func} {p p2 u v : Tmp} {ty : TypeId} (h : fn.results = #[.cell p ty, .cell p2 ty, .tmp u, .tmp v]) {X X2 : Nat} {vs vs2 : List Value} (hB : Bx S w X vs) (hB2 : Bx S2 w X2 vs2) {tmps : Array Value} (hp : tmps.getD p undef = .pointer (some ⟨X, 0, none⟩)) (hp2 : tmps.getD p2 undef = .pointer (some ⟨X2, 0, none⟩)) {x y : Value} (hx : tmps.getD u undef = x) (hy : tmps.getD v undef = y) (d : TypeDesc)
    (hu : P.underlying ty = some d) (hd : d.isRow = true) (hi : (P.info? ty).map (·.size) = some vs.length) (hi2 : (P.info? ty).map (·.size) = some vs2.length) : (results fn tmps).run P w = .ok (.tuple #[.agg vs.toArray, .agg vs2.toArray, x, y]) w := by
  have h1 := run_loadVar_mid (P := P) w X 0 ty vs d hB.range hu hd hi
  have h2 := run_loadVar_mid (P := P) w X2 0 ty vs2 d hB2.range hu hd hi2
  have hp' : tmps[p]?.getD undef = .pointer (some ⟨X, 0, none⟩) := by simpa using hp
  have hp2' : tmps[p2]?.getD undef = .pointer (some ⟨X2, 0, none⟩) := by simpa using hp2
  have hx' : tmps[u]?.getD undef = x := by simpa using hx
  have hy' : tmps[v]?.getD undef = y := by simpa using hy
  simp [results, h, hp', hp2', hx', hy', asAddr, h1, h2, Sem.run_bind, Result.andThen]
def RMetaPost (w : World) (r : Except Int (List Nat × Tb × Tb)) (e : Ending) (w' : World) : Prop := ∃ a c1 c2 : Pl3, e = .returned (.tuple #[.agg (rTV (eV mNone r).2.1 c1 Pl3.none).toArray, .agg (rTV (eV mNone r).2.2 c2 Pl3.none).toArray, .slice a.1 a.2.1 a.2.2, .int .i64 (eE r)]) ∧ Arr 1 u16P (fun b => w.heap.size ≤ b) w' a.1 a.2.1 a.2.2 (eV mNone r).1 ∧ RTbR 9223372036854775807 20 (fun b => w.heap.size ≤ b) w' c1 Pl3.none (eV mNone r).2.1 ∧ RTbR 9223372036854775807 20 (fun b => w.heap.size ≤ b) w' c2 Pl3.none (eV mNone r).2.2 ∧ Below w.heap.size w w'
set_option maxHeartbeats 8000000 in
set_option maxRecDepth 100000 in
theorem rMeta10_any {S : Nat → Prop} {A : Option Addr} {m c0 : Nat} {bs : B} {w : World} (hs : Sl S w A m c0 bs) (hm : m ≤ 140737488355328) :
    Calls Tryd.prog 15 #[.slice A m c0] w fun e w' => RMetaPost w (getMeta bs) e w' := by
  have HS := Lib.hid hs.lt
  have hlb := Lib.hid hs.len
  clear hs
  obtain ⟨r, hr⟩ : ∃ r, r = getMeta bs := ⟨_, rfl⟩
  rw [← hr]
  have HR := Lib.hid hr; clear hr
  obtain ⟨r1, hr1⟩ : ∃ z, colsR true bs = z := ⟨_, rfl⟩
  have HR1 := Lib.hid hr1; clear hr1
  go_enter Tryd.func15, Tryd.ntmps15
  go_upto_region 1 with fail
  obtain ⟨w2, hw2⟩ : ∃ w2, w2 = (w.alloc (.cells #[.int .i64 0, .slice none 0 0, .bool false, .int .i64 0, .string ⟨#[]⟩, .slice none 0 0] 38)).alloc (.cells #[.int .i64 0, .slice none 0 0, .bool false, .int .i64 0, .string ⟨#[]⟩, .slice none 0 0] 38) := ⟨_, rfl⟩
  rw [← hw2]
  have HL2 : Hid (Below w.heap.size w w2) := Lib.hid (by rw [hw2]; exact ((Below.refl _ _).alloc (Nat.le_refl _) _).alloc (by simp) _)
  have HA2 : Hid (Bx (fun b => b = w.heap.size) w2 w.heap.size zR) := Lib.hid (by
    rw [hw2]
    exact goesBx.after (Bx.alloc w zR.toArray 38 (S := fun b => b = w.heap.size) rfl rfl) ((Below.refl _ _).alloc (Nat.le_refl _) _))
  have HB2 : Hid (Bx (fun b => b = w.heap.size + 1) w2 (w.heap.size + 1) zR) := Lib.hid (by
    rw [hw2]
    exact Bx.alloc (w.alloc _) zR.toArray 38 (S := fun b => b = w.heap.size + 1) (by simp) (by simp))
  clear hw2
  have hz2 : w.heap.size + 1 < w2.heap.size := HB2.out.lt
  go_wp2_with fail
  refine (rcols10_any (a := 0) (HS.out.fin HL2.out) hm (Nat.zero_le _) r1 (by rw [List.drop_zero]; exact HR1.out)).mono ?_
  rintro e w3 ⟨t1, l, a, c1, q0, rfl, htr, hrows, hris, hat, hb3⟩
  have HA3 := Lib.hid (goesBx.after HA2.out hb3)
  have HB3 := Lib.hid (goesBx.after HB2.out hb3)
  have HL3 : Hid (Below w.heap.size w w3) := Lib.hid (HL2.out.trans (hb3.mono HL2.out.size))
  have hz3 : w2.heap.size ≤ w3.heap.size := hb3.size
  have HC3 : Hid (Arr 8 (colP 9223372036854775807 20 (fun b => w2.heap.size ≤ b ∧ b < w3.heap.size) w3) (fun b => w2.heap.size ≤ b ∧ b < w3.heap.size) w3 c1.1 c1.2.1 c1.2.2 t1.cols) := Lib.hid ((goesArrD goesCol).mono htr.cl fun b hb hlt => ⟨hb, hlt⟩)
  have HP3 : Hid (Arr 1 u16P (fun b => w2.heap.size ≤ b ∧ b < w3.heap.size) w3 a.1 a.2.1 a.2.2 l) := Lib.hid (goesArr.mono htr.pl fun b hb hlt => ⟨hb, hlt⟩)
  have HIS := Lib.hid hris; clear hris
  have HAT := Lib.hid hat; clear hat
  have HRW := Lib.hid hrows; clear hrows
  clear htr hb3 HA2 HB2 HL2
  go_upto_region 2 with (first | (refine wpList_store_newB (by rfl) 38 _ _ (by rfl) _ _ _ _ (by rfl) (by rfl) (by simp) (by rfl) (by kernel_rfl) (by rfl) (by rfl) ?_; intro w4 hb4 hz4 hx4))
  obtain ⟨X, hX⟩ : ∃ X, X = w3.heap.size := ⟨_, rfl⟩
  rw [← hX]
  have HX4 : Hid (Bx (fun b => b = X) w4 X (rTV t1 c1 Pl3.none)) := Lib.hid (hX ▸ hx4)
  have HA4 := Lib.hid (goesBx.after HA3.out hb4)
  have HB4 := Lib.hid (goesBx.after HB3.out hb4)
  have HL4 := Lib.hid (HL3.out.trans (hb4.mono HL3.out.size))
  have HC4 := Lib.hid ((goesArrD goesCol).after HC3.out hb4)
  have HP4 := Lib.hid (goesArr.after HP3.out hb4)
  have hX3 : X = w3.heap.size := hX
  have hzx : w2.heap.size ≤ X := by omega
  have HXE := Lib.hid hX3
  clear hx4 hb4 hz4 hX hX3 HA3 HB3 HL3 HC3 HP3
  cases r1 with
  | error e =>
    have hne : (e != 0) = true := by simpa using nzCols true _ _ HR1.out
    have HE : Hid (r = .error e) := Lib.hid (HR.out.trans (getMeta_e1 HR1.out))
    simp only [rerr_error]
    have lA := HA4.out.lt
    have lB := HB4.out.lt
    go_wp2_with (first | (refine wpList_built (by rfl) 38 _ (by rfl) zR.toArray (by kernel_rfl) ?_) | (refine wpList_storeB HA4.out (by rfl) 38 _ _ (by rfl) 0 (zR) (by rfl) (by rfl) (by kernel_rfl) (by show 0 + 6 ≤ 6; decide) (by rfl) ?_; intro wy hxy hgy; have HXY := Lib.hid hxy; have HGY := Lib.hid hgy; have HBY := Lib.hid (goesBx.grown HB4.out hgy (fun b e => by omega)); have lY := HBY.out.lt; clear hxy hgy) | (refine wpList_storeB HBY.out (by rfl) 38 _ _ (by rfl) 0 (zR) (by rfl) (by rfl) (by kernel_rfl) (by show 0 + 6 ≤ 6; decide) (by rfl) ?_; intro wz hxz hgz; have HXZ := Lib.hid hxz; have HGZ := Lib.hid hgz; have HYZ := Lib.hid (goesBx.grown HXY.out hgz (fun b e => by omega)); clear hxz hgz))
    refine bodyPost_ret (results_bb2 (vs := zR) (vs2 := zR) rfl HYZ.out HXZ.out (by rfl) (by rfl) (by rfl) (by rfl) _ Tryd.underlying38 rfl (by kernel_rfl) (by kernel_rfl)) rfl ?_
    rw [HE.out]
    exact ⟨Pl3.none, Pl3.none, Pl3.none, rfl, Arr.nil, RTbR.none, RTbR.none, Below.grown1 (Below.grown1 HL4.out HGY.out HL4.out.size (Nat.le_refl _)) HGZ.out (Below.grown1 HL4.out HGY.out HL4.out.size (Nat.le_refl _)).size (by omega)⟩
  | ok p =>
    obtain ⟨⟨t1', l1'⟩, b1⟩ := p
    obtain ⟨rfl, rfl⟩ := Prod.mk.inj (HIS.out (t1', l1') b1 rfl)
    clear HIS
    have hq0m : q0 ≤ m := by have := HAT.out.le; have := hlb.out; omega
    have HD0 := Lib.hid HAT.out.drop
    clear HAT
    simp only [rerr_ok]
    obtain ⟨r2, hr2⟩ : ∃ z, colsR false b1 = z := ⟨_, rfl⟩
    have HR2 := Lib.hid hr2; clear hr2
    go_wp2_with fail
    refine (rcols10_any (HS.out.fin HL4.out) hm hq0m r2 (by rw [HD0.out]; exact HR2.out)).mono ?_
    rintro e w5 ⟨t2, l2, a2, c2, q2, rfl, htr, hrows, hris, hat, hb5⟩
    have HA5 := Lib.hid (goesBx.after HA4.out hb5)
    have HB5 := Lib.hid (goesBx.after HB4.out hb5)
    have HX5 := Lib.hid (goesBx.after HX4.out hb5)
    have HL5 : Hid (Below w.heap.size w w5) := Lib.hid (HL4.out.trans (hb5.mono HL4.out.size))
    have hz5 : w4.heap.size ≤ w5.heap.size := hb5.size
    have hx4 : X < w4.heap.size := HX4.out.lt
    have HC5 := Lib.hid ((goesArrD goesCol).after HC4.out hb5)
    have HP5 := Lib.hid (goesArr.after HP4.out hb5)
    have HU5 : Hid (Arr 8 (colP 9223372036854775807 20 (fun b => w4.heap.size ≤ b ∧ b < w5.heap.size) w5) (fun b => w4.heap.size ≤ b ∧ b < w5.heap.size) w5 c2.1 c2.2.1 c2.2.2 t2.cols) := Lib.hid ((goesArrD goesCol).mono htr.cl fun b hb hlt => ⟨hb, hlt⟩)
    have HIS := Lib.hid hris; clear hris
    have HAT := Lib.hid hat; clear hat
    have HRW2 := Lib.hid hrows; clear hrows
    clear htr hb5 HA4 HB4 HL4 HC4 HP4 HX4
    go_upto_region 5 with (first | (refine wpList_store_newB (by rfl) 38 _ _ (by rfl) _ _ _ _ (by rfl) (by rfl) (by simp) (by rfl) (by kernel_rfl) (by rfl) (by rfl) ?_; intro w6 hb6 hz6 hx6))
    obtain ⟨Y, hY⟩ : ∃ Y, Y = w5.heap.size := ⟨_, rfl⟩
    rw [← hY]
    have HY6 : Hid (Bx (fun b => b = Y) w6 Y (rTV t2 c2 Pl3.none)) := Lib.hid (hY ▸ hx6)
    have HA6 := Lib.hid (goesBx.after HA5.out hb6)
    have HB6 := Lib.hid (goesBx.after HB5.out hb6)
    have HX6 := Lib.hid (goesBx.after HX5.out hb6)
    have HL6 := Lib.hid (HL5.out.trans (hb6.mono HL5.out.size))
    have HC6 := Lib.hid ((goesArrD goesCol).after HC5.out hb6)
    have HP6 := Lib.hid (goesArr.after HP5.out hb6)
    have HU6 := Lib.hid ((goesArrD goesCol).after HU5.out hb6)
    have hYX : X < Y := by omega
    clear hx6 hb6 hz6 hY HA5 HB5 HL5 HC5 HP5 HX5 HU5
    cases r2 with
    | error e =>
      have hne : (e != 0) = true := by simpa using nzCols false _ _ HR2.out
      have HE : Hid (r = .error e) := Lib.hid (HR.out.trans (getMeta_e2 HR1.out HR2.out))
      simp only [rerr_error]
      have lA := HA6.out.lt
      have lB := HB6.out.lt
      go_wp2_with (first | (refine wpList_built (by rfl) 38 _ (by rfl) zR.toArray (by kernel_rfl) ?_) | (refine wpList_storeB HA6.out (by rfl) 38 _ _ (by rfl) 0 (zR) (by rfl) (by rfl) (by kernel_rfl) (by show 0 + 6 ≤ 6; decide) (by rfl) ?_; intro wy hxy hgy; have HXY := Lib.hid hxy; have HGY := Lib.hid hgy; have HBY := Lib.hid (goesBx.grown HB6.out hgy (fun b e => by omega)); have lY := HBY.out.lt; clear hxy hgy) | (refine wpList_storeB HBY.out (by rfl) 38 _ _ (by rfl) 0 (zR) (by rfl) (by rfl) (by kernel_rfl) (by show 0 + 6 ≤ 6; decide) (by rfl) ?_; intro wz hxz hgz; have HXZ := Lib.hid hxz; have HGZ := Lib.hid hgz; have HYZ := Lib.hid (goesBx.grown HXY.out hgz (fun b e => by omega)); clear hxz hgz))
      refine bodyPost_ret (results_bb2 (vs := zR) (vs2 := zR) rfl HYZ.out HXZ.out (by rfl) (by rfl) (by rfl) (by rfl) _ Tryd.underlying38 rfl (by kernel_rfl) (by kernel_rfl)) rfl ?_
      rw [HE.out]
      exact ⟨Pl3.none, Pl3.none, Pl3.none, rfl, Arr.nil, RTbR.none, RTbR.none, Below.grown1 (Below.grown1 HL6.out HGY.out HL6.out.size (Nat.le_refl _)) HGZ.out (Below.grown1 HL6.out HGY.out HL6.out.size (Nat.le_refl _)).size (by omega)⟩
    | ok p =>
      obtain ⟨⟨t2', l2'⟩, b2⟩ := p
      obtain ⟨rfl, rfl⟩ := Prod.mk.inj (HIS.out (t2', l2') b2 rfl)
      clear HIS
      have hq2m : q2 ≤ m := by have := HAT.out.le; have := hlb.out; omega
      have HD2 : Hid (bs.drop q2 = b2) := Lib.hid HAT.out.drop
      clear HAT
      simp only [rerr_ok]
      have HF := Lib.hid (HR.out.trans (getMeta_o HR1.out HR2.out))
      clear HR HR1 HR2
      by_cases hqe : q2 = m
      · subst hqe
        have HE : Hid (r = .ok (l1', t1', t2')) := Lib.hid (by rw [HF.out, if_pos]; rw [← HD2.out, List.length_drop]; have := hlb.out; omega)
        go_upto_region 9 with fail
        have hdr : Below w6.heap.size w6 w6.drew := (Below.refl _ _).drew
        have hA := goesBx.after HA6.out hdr
        have hB := goesBx.after HB6.out hdr
        have hX := goesBx.after HX6.out hdr
        have hY := goesBx.after HY6.out hdr
        clear hdr
        refine regf_start (fun b => b = w.heap.size ∨ b = w.heap.size + 1) (by kernel_rfl) ?_
        (refine regf_take 2 (v := ?_) (by rfl) (by kernel_rfl) (by kernel_rfl) (by kernel_rfl) (by exact fun _ _ _ h => h) (by rfl) ?_ ?_; rotate_left; focus (intro w hSw; go_simp; try with_reducible rfl))
        simp only [Act.put, List.setIfInBounds_toArray, List.set_cons_zero, List.set_cons_succ]
        refine regf_two 0 1 (by kernel_rfl) (by rfl) (by rfl) (fun K hK => ?_) (fun K hK => ?_)
        focus
          refine step_loadB hX (by rfl) 38 _ (by rfl) (by rfl) _ Tryd.underlying38 rfl (by kernel_rfl) ?_
          refine hK.out _ _ ((Fr.refl _ _)) ?_
          clear hK K
          try simp only [Act.put, List.setIfInBounds_toArray, List.set_cons_zero, List.set_cons_succ]
          refine regf_two 1 3 (by kernel_rfl) (by rfl) (by rfl) (fun K hK => ?_) (fun K hK => ?_)
          focus
            first | refine step_loadB hY (by rfl) 38 _ (by rfl) (by rfl) _ Tryd.underlying38 rfl (by kernel_rfl) ?_ | refine step_loadB hYa (by rfl) 38 _ (by rfl) (by rfl) _ Tryd.underlying38 rfl (by kernel_rfl) ?_
            refine hK.out _ _ ((Fr.refl _ _)) ?_
            clear hK K
            try simp only [Act.put, List.setIfInBounds_toArray, List.set_cons_zero, List.set_cons_succ]
            refine regf_call 3 (by kernel_rfl) (by rfl) (fun K hK => ?_)
            refine step_storeB hA (by rfl) 38 _ _ (by rfl) 0 (rTV t1' c1 Pl3.none) (by rfl) (by rfl) (by kernel_rfl) (by show 0 + 6 ≤ 6; decide) (by rfl) ?_; intro wa hxa hga; have hYa := goesBx.grown hY hga (fun b e => by omega); have hBa := goesBx.grown hB hga (fun b e => by omega)
            refine hK.out _ _ ((Fr.of_one hga (.inl rfl))) ?_
            clear hK K
            try simp only [Act.put, List.setIfInBounds_toArray, List.set_cons_zero, List.set_cons_succ]
            refine regf_call 4 (by kernel_rfl) (by rfl) (fun K hK => ?_)
            refine step_storeB hBa (by rfl) 38 _ _ (by rfl) 0 (rTV t2' c2 Pl3.none) (by rfl) (by rfl) (by kernel_rfl) (by show 0 + 6 ≤ 6; decide) (by rfl) ?_; intro wb hxb hgb; have hxa2 := goesBx.grown hxa hgb (fun b e => by omega); have hfr : Fr (fun b => b = w.heap.size ∨ b = w.heap.size + 1) w6 wb := ((Fr.of_below ((Below.refl _ _).drew)).trans (Fr.of_one hga (.inl rfl))).trans (Fr.of_one hgb (.inr rfl))
            refine hK.out _ _ ((Fr.of_one hgb (.inr rfl))) ?_
            clear hK K
            try simp only [Act.put, List.setIfInBounds_toArray, List.set_cons_zero, List.set_cons_succ]
            (refine regf_take 5 (v := ?_) (by rfl) (by kernel_rfl) (by kernel_rfl) (by kernel_rfl) (by exact fun _ _ _ h => h) (by rfl) ?_ ?_; rotate_left; focus (intro w hSw; go_simp; try with_reducible rfl))
            simp only [Act.put, List.setIfInBounds_toArray, List.set_cons_zero, List.set_cons_succ]
            (refine regf_take 6 (v := ?_) (by rfl) (by kernel_rfl) (by kernel_rfl) (by kernel_rfl) (by exact fun _ _ _ h => h) (by rfl) ?_ ?_; rotate_left; focus (intro w hSw; go_simp; try with_reducible rfl))
            simp only [Act.put, List.setIfInBounds_toArray, List.set_cons_zero, List.set_cons_succ]
            refine wpAnyH_done (by kernel_rfl) ?_ _
          rotate_left 1
          focus
            refine step_storeB hA (by rfl) 38 _ _ (by rfl) 0 (rTV t1' c1 Pl3.none) (by rfl) (by rfl) (by kernel_rfl) (by show 0 + 6 ≤ 6; decide) (by rfl) ?_; intro wa hxa hga; have hYa := goesBx.grown hY hga (fun b e => by omega); have hBa := goesBx.grown hB hga (fun b e => by omega)
            refine hK.out _ _ ((Fr.of_one hga (.inl rfl))) ?_
            clear hK K
            try simp only [Act.put, List.setIfInBounds_toArray, List.set_cons_zero, List.set_cons_succ]
            refine regf_call 1 (by kernel_rfl) (by rfl) (fun K hK => ?_)
            first | refine step_loadB hY (by rfl) 38 _ (by rfl) (by rfl) _ Tryd.underlying38 rfl (by kernel_rfl) ?_ | refine step_loadB hYa (by rfl) 38 _ (by rfl) (by rfl) _ Tryd.underlying38 rfl (by kernel_rfl) ?_
            refine hK.out _ _ ((Fr.refl _ _)) ?_
            clear hK K
            try simp only [Act.put, List.setIfInBounds_toArray, List.set_cons_zero, List.set_cons_succ]
            refine regf_call 4 (by kernel_rfl) (by rfl) (fun K hK => ?_)
            refine step_storeB hBa (by rfl) 38 _ _ (by rfl) 0 (rTV t2' c2 Pl3.none) (by rfl) (by rfl) (by kernel_rfl) (by show 0 + 6 ≤ 6; decide) (by rfl) ?_; intro wb hxb hgb; have hxa2 := goesBx.grown hxa hgb (fun b e => by omega); have hfr : Fr (fun b => b = w.heap.size ∨ b = w.heap.size + 1) w6 wb := ((Fr.of_below ((Below.refl _ _).drew)).trans (Fr.of_one hga (.inl rfl))).trans (Fr.of_one hgb (.inr rfl))
            refine hK.out _ _ ((Fr.of_one hgb (.inr rfl))) ?_
            clear hK K
            try simp only [Act.put, List.setIfInBounds_toArray, List.set_cons_zero, List.set_cons_succ]
            (refine regf_take 5 (v := ?_) (by rfl) (by kernel_rfl) (by kernel_rfl) (by kernel_rfl) (by exact fun _ _ _ h => h) (by rfl) ?_ ?_; rotate_left; focus (intro w hSw; go_simp; try with_reducible rfl))
            simp only [Act.put, List.setIfInBounds_toArray, List.set_cons_zero, List.set_cons_succ]
            (refine regf_take 6 (v := ?_) (by rfl) (by kernel_rfl) (by kernel_rfl) (by kernel_rfl) (by exact fun _ _ _ h => h) (by rfl) ?_ ?_; rotate_left; focus (intro w hSw; go_simp; try with_reducible rfl))
            simp only [Act.put, List.setIfInBounds_toArray, List.set_cons_zero, List.set_cons_succ]
            refine wpAnyH_done (by kernel_rfl) ?_ _
        rotate_left 2
        focus
          first | refine step_loadB hY (by rfl) 38 _ (by rfl) (by rfl) _ Tryd.underlying38 rfl (by kernel_rfl) ?_ | refine step_loadB hYa (by rfl) 38 _ (by rfl) (by rfl) _ Tryd.underlying38 rfl (by kernel_rfl) ?_
          refine hK.out _ _ ((Fr.refl _ _)) ?_
          clear hK K
          try simp only [Act.put, List.setIfInBounds_toArray, List.set_cons_zero, List.set_cons_succ]
          refine regf_call 0 (by kernel_rfl) (by rfl) (fun K hK => ?_)
          refine step_loadB hX (by rfl) 38 _ (by rfl) (by rfl) _ Tryd.underlying38 rfl (by kernel_rfl) ?_
          refine hK.out _ _ ((Fr.refl _ _)) ?_
          clear hK K
          try simp only [Act.put, List.setIfInBounds_toArray, List.set_cons_zero, List.set_cons_succ]
          refine regf_call 3 (by kernel_rfl) (by rfl) (fun K hK => ?_)
          refine step_storeB hA (by rfl) 38 _ _ (by rfl) 0 (rTV t1' c1 Pl3.none) (by rfl) (by rfl) (by kernel_rfl) (by show 0 + 6 ≤ 6; decide) (by rfl) ?_; intro wa hxa hga; have hYa := goesBx.grown hY hga (fun b e => by omega); have hBa := goesBx.grown hB hga (fun b e => by omega)
          refine hK.out _ _ ((Fr.of_one hga (.inl rfl))) ?_
          clear hK K
          try simp only [Act.put, List.setIfInBounds_toArray, List.set_cons_zero, List.set_cons_succ]
          refine regf_call 4 (by kernel_rfl) (by rfl) (fun K hK => ?_)
          refine step_storeB hBa (by rfl) 38 _ _ (by rfl) 0 (rTV t2' c2 Pl3.none) (by rfl) (by rfl) (by kernel_rfl) (by show 0 + 6 ≤ 6; decide) (by rfl) ?_; intro wb hxb hgb; have hxa2 := goesBx.grown hxa hgb (fun b e => by omega); have hfr : Fr (fun b => b = w.heap.size ∨ b = w.heap.size + 1) w6 wb := ((Fr.of_below ((Below.refl _ _).drew)).trans (Fr.of_one hga (.inl rfl))).trans (Fr.of_one hgb (.inr rfl))
          refine hK.out _ _ ((Fr.of_one hgb (.inr rfl))) ?_
          clear hK K
          try simp only [Act.put, List.setIfInBounds_toArray, List.set_cons_zero, List.set_cons_succ]
          (refine regf_take 5 (v := ?_) (by rfl) (by kernel_rfl) (by kernel_rfl) (by kernel_rfl) (by exact fun _ _ _ h => h) (by rfl) ?_ ?_; rotate_left; focus (intro w hSw; go_simp; try with_reducible rfl))
          simp only [Act.put, List.setIfInBounds_toArray, List.set_cons_zero, List.set_cons_succ]
          (refine regf_take 6 (v := ?_) (by rfl) (by kernel_rfl) (by kernel_rfl) (by kernel_rfl) (by exact fun _ _ _ h => h) (by rfl) ?_ ?_; rotate_left; focus (intro w hSw; go_simp; try with_reducible rfl))
          simp only [Act.put, List.setIfInBounds_toArray, List.set_cons_zero, List.set_cons_succ]
          refine wpAnyH_done (by kernel_rfl) ?_ _
        all_goals
          have HXA := Lib.hid hxa2
          have HXB : Hid (Bx (fun b => b = w.heap.size + 1) wb (w.heap.size + 1) (rTV t2' c2 Pl3.none)) := Lib.hid hxb
          have HFR := Lib.hid hfr
          clear hxa hxb hga hgb hfr hxa2 hA hB hX hY hYa hBa
          go_wp2_with fail
          refine bodyPost_ret (results_bb2 (vs := rTV t1' c1 Pl3.none) (vs2 := rTV t2' c2 Pl3.none) rfl HXA.out HXB.out (by rfl) (by rfl) (by rfl) (by rfl) _ Tryd.underlying38 rfl (by kernel_rfl) (by kernel_rfl)) rfl ?_
          rw [HE.out]
          have hz2' := HL6.out.size
          refine ⟨a, c1, c2, rfl, ?_, ⟨?_, ?_⟩, ⟨?_, ?_⟩, HL6.out.trans (HFR.out.below hz2' fun b hb e => by omega)⟩
          · exact goesArr.mono (goesArr.keep HP6.out HFR.out.size fun b hb hlt => HFR.out.block b hlt (by omega)) fun b hb _ => by omega
          · exact (goesArrD goesCol).mono ((goesArrD goesCol).keep HC6.out HFR.out.size fun b hb hlt => HFR.out.block b hlt (by omega)) fun b hb _ => by omega
          · show Arr 1 _ _ wb none 0 0 t1'.rows; rw [HRW.out]; exact Arr.nil
          · exact (goesArrD goesCol).mono ((goesArrD goesCol).keep HU6.out HFR.out.size fun b hb hlt => HFR.out.block b hlt (by omega)) fun b hb _ => by omega
          · show Arr 1 _ _ wb none 0 0 t2'.rows; rw [HRW2.out]; exact Arr.nil
      · have HE : Hid (r = .error 23) := Lib.hid (by rw [HF.out, if_neg]; rw [← HD2.out, List.length_drop]; have := hlb.out; omega)
        have hqb : ((q2 : Int) != (m : Int)) = true := by simp; omega
        clear hqe
        have lA := HA6.out.lt
        have lB := HB6.out.lt
        go_wp2_with (first | (refine wpList_built (by rfl) 38 _ (by rfl) zR.toArray (by kernel_rfl) ?_) | (refine wpList_storeB HA6.out (by rfl) 38 _ _ (by rfl) 0 (zR) (by rfl) (by rfl) (by kernel_rfl) (by show 0 + 6 ≤ 6; decide) (by rfl) ?_; intro wy hxy hgy; have HXY := Lib.hid hxy; have HGY := Lib.hid hgy; have HBY := Lib.hid (goesBx.grown HB6.out hgy (fun b e => by omega)); have lY := HBY.out.lt; clear hxy hgy) | (refine wpList_storeB HBY.out (by rfl) 38 _ _ (by rfl) 0 (zR) (by rfl) (by rfl) (by kernel_rfl) (by show 0 + 6 ≤ 6; decide) (by rfl) ?_; intro wz hxz hgz; have HXZ := Lib.hid hxz; have HGZ := Lib.hid hgz; have HYZ := Lib.hid (goesBx.grown HXY.out hgz (fun b e => by omega)); clear hxz hgz))
        refine bodyPost_ret (results_bb2 (vs := zR) (vs2 := zR) rfl HYZ.out HXZ.out (by rfl) (by rfl) (by rfl) (by rfl) _ Tryd.underlying38 rfl (by kernel_rfl) (by kernel_rfl)) rfl ?_
        rw [HE.out]
        exact ⟨Pl3.none, Pl3.none, Pl3.none, rfl, Arr.nil, RTbR.none, RTbR.none, Below.grown1 (Below.grown1 HL6.out HGY.out HL6.out.size (Nat.le_refl _)) HGZ.out (Below.grown1 HL6.out HGY.out HL6.out.size (Nat.le_refl _)).size (by omega)⟩
end Go.Proofs.Sb
