/- Walk over option.reader's option: types of one's own. Conditions: the table of names reads as it was laid. (written by gen_optread.py) -/
import Derived.Test.YtpgcadicamnpkaaDoorOpthy
import Derived.Test.YtpgcadicamnpkaaDoorMaps
import Derived.Laws.Runes
set_option linter.unusedVariables false
set_option linter.unusedSimpArgs false
namespace Go.Proofs.Sb
open Go.RowKit _root_.Sb

set_option maxHeartbeats 8000000 in
set_option maxRecDepth 100000 in
theorem readO_48 {n : Nat} {S : Nat → Prop} {w : World} {X : Nat} {deep : Int} (ih : ReadO n) {cur rs : B} (hrd : RdAt S w X (.ok cur)) (hS : ∀ b, S b → b < X) (hX : 0 < X) (hpl : Pl w) (hdn : deep + n = 20) (hd1 : 1 ≤ deep) (hgn : getN 2 cur = .ok (48, rs)) :
    Calls Tryd.prog 28 #[.pointer (some ⟨X, 0, none⟩), .int .i64 deep] w fun e w' => ∃ A1 n1 c1 A2 n2 c2 o s', e = .returned (optV o A1 n1 c1 A2 n2 c2) ∧ OptR (fun b => w.heap.size ≤ b) w' 9223372036854775807 (n + 1) A1 n1 c1 A2 n2 c2 o ∧ RdAt S w' X s' ∧ w.grownBy w' (some X) ∧ RdPost (n + 1) (.ok cur) o s' := by
  have hXlt := hrd.lt
  have HRD := Lib.hid hrd
  have HS := Lib.hid hS; clear hS
  have HPL := Lib.hid hpl; clear hpl
  have hX1 : ∀ b, S b → b ≠ X := fun b h e => by have := HS.out b h; omega
  have HX1 := Lib.hid hX1; clear hX1
  obtain ⟨AX, nX, cX, g0, g1, g2, g3, g4⟩ := hrd
  have G2 := Lib.hid g2
  have f1 := g2 1
  clear g2 g3
  go_enter Tryd.func28, Tryd.ntmps28
  have hid : 48 < 65536 := by decide
  have HG := Lib.hid hgn; clear hgn
  simp only [werr_ok] at g1
  clear g4
  go_wp2_with fail

  refine (rshort_any (HRD.out.after (by repeat (first | exact Below.refl _ _ | assumption | refine Below.drew ?_ | refine below_drewN ?_ _ | refine Below.alloc ?_ (by first | (simp; done) | omega | (simp; omega)) _ | refine Below.setCell ?_ (by first | (simp; done) | omega | (simp; omega)) _))) HX1.out).mono ?_
  rintro e1 w1 ⟨rfl, ha1, hg1⟩
  rw [shortR_ok HG.out] at ha1
  rw [shortV_ok HG.out]
  simp only [rval_ok] at ha1 ⊢
  have hgw : w.grownBy w1 (some X) := grow_seq (grow_of_below (row := some X) (by repeat (first | exact Below.refl _ _ | assumption | refine Below.drew ?_ | refine below_drewN ?_ _ | refine Below.alloc ?_ (by first | (simp; done) | omega | (simp; omega)) _ | refine Below.setCell ?_ (by first | (simp; done) | omega | (simp; omega)) _))) hg1 fun j e => .inr e
  have hR1 : BoxAt w1 w.heap.size (.int .u16 0) (.string (str [])) (.string (str [])) (.slice none 0 0) (.slice none 0 0) := (box_new w _ _ _ _ _ _).grown hg1 (fun e => by injection e with e; omega)
  have hz1 : w.heap.size < w1.heap.size := hR1.lt
  have HR1 := Lib.hid hR1; clear hR1
  have HA1 := Lib.hid ha1; clear ha1
  clear g0 g1 f1
  go_wp2_with fail
  refine (kids_any (id := 48) hid ((HPL.out.grown hgw (fun e => by injection e with e; omega)).after (by repeat (first | exact Below.refl _ _ | assumption | refine Below.drew ?_ | refine below_drewN ?_ _ | refine Below.alloc ?_ (by first | (simp; done) | omega | (simp; omega)) _ | refine Below.setCell ?_ (by first | (simp; done) | omega | (simp; omega)) _)))).mono ?_
  rintro e2 w2 ⟨rfl, hb2⟩
  have hO2 : BoxAt w2 w1.heap.size (.int .u16 (48 : Nat)) (.string (str [])) (.string (str [])) (.slice none 0 0) (.slice none 0 0) := (box_new w1 _ _ _ _ _ _).after hb2
  have hz2 : w1.heap.size < w2.heap.size := hO2.lt
  have hb12 : Below w1.heap.size w1 w2 := Below.trans (by repeat (first | exact Below.refl _ _ | assumption | refine Below.drew ?_ | refine below_drewN ?_ _ | refine Below.alloc ?_ (by first | (simp; done) | omega | (simp; omega)) _ | refine Below.setCell ?_ (by first | (simp; done) | omega | (simp; omega)) _)) (hb2.mono (by simp))
  have hA2 : RdAt S w2 X (.ok rs) := HA1.out.after hb12
  have HA2 := Lib.hid hA2
  have hR2 : BoxAt w2 w.heap.size (.int .u16 0) (.string (str [])) (.string (str [])) (.slice none 0 0) (.slice none 0 0) := HR1.out.after hb12
  have HR2 := Lib.hid hR2; clear hR2
  have hgw2 : w.grownBy w2 (some X) := grow_seq hgw (grow_of_below (row := some X) hb12) fun j e => .inr e
  obtain ⟨A2, n2, c2, e0, e1, e2, e3, e4⟩ := hA2
  have o0 := hO2.c0
  have HO2 := Lib.hid hO2; clear hO2
  simp only [werr_ok] at e1
  have e2f := e2 1
  clear e2 e3 e4
  have hkr := kn_range (48)

  clear hkr
  rw [show knP 48 = -1 by decide]
  have hSPL : (textV (.ok rs)).length ≤ 9223372036854775807 := by have := textV_len (.ok rs); omega
  have hNML : (textV (textR (.ok rs))).length ≤ 9223372036854775807 := by have := textV_len (textR (.ok rs)); omega
  go_wp2_with fail
  refine (rdtext_any HA2.out HX1.out).mono ?_
  rintro e3 w3 ⟨rfl, ha3, hg3⟩
  have hO3 := HO2.out.grown hg3 (fun e => by injection e with e; omega)
  have hz3 := hO3.lt
  have o1 := hO3.c1
  have oF := hO3.fr 1
  have HO3 := Lib.hid (hO3.set1 (.string (str (textV (.ok rs))))); clear hO3
  have HA3 := Lib.hid (ha3.set (j := w1.heap.size) (i := 1) (by omega) (fun b h => by have := HS.out b h; omega) (.string (str (textV (.ok rs))))); clear ha3
  have hgw3 : w.grownBy (w3.setCell ⟨w1.heap.size, 1, none⟩ (.string (str (textV (.ok rs))))) (some X) := grow_seq (grow_seq hgw2 hg3 fun j e => .inr e) (grow_setCell _ _ _ _) fun j e => by (injection e with e; left; omega)
  have HR3 := Lib.hid ((HR2.out.grown hg3 (fun e => by injection e with e; omega)).setOther (j := w1.heap.size) (i := 1) (by omega) (.string (str (textV (.ok rs)))))
  clear o0 e0 e1 e2f
  go_wp2_with fail
  refine (rdtext_any HA3.out HX1.out).mono ?_
  rintro e4 w4 ⟨rfl, ha4, hg4⟩
  have hO4 := HO3.out.grown hg4 (fun e => by injection e with e; omega)
  have hz4 := hO4.lt
  have o2 := hO4.c2
  have oF2 := hO4.fr 2
  have HO4 := Lib.hid (hO4.set2 (.string (str (textV (textR (.ok rs)))))); clear hO4
  have HA4 := Lib.hid (ha4.set (j := w1.heap.size) (i := 2) (by omega) (fun b h => by have := HS.out b h; omega) (.string (str (textV (textR (.ok rs)))))); clear ha4
  have hgw4 : w.grownBy (w4.setCell ⟨w1.heap.size, 2, none⟩ (.string (str (textV (textR (.ok rs)))))) (some X) := grow_seq (grow_seq hgw3 hg4 fun j e => .inr e) (grow_setCell _ _ _ _) fun j e => by (injection e with e; left; omega)
  have HR4 := Lib.hid ((HR3.out.grown hg4 (fun e => by injection e with e; omega)).setOther (j := w1.heap.size) (i := 2) (by omega) (.string (str (textV (textR (.ok rs))))))
  clear o1 oF
  go_wp2_with fail
  refine (rshort_any HA4.out HX1.out).mono ?_
  rintro e5 w5 ⟨rfl, ha5, hg5⟩
  have hO5 := HO4.out.grown hg5 (fun e => by injection e with e; omega)
  have hz5 := hO5.lt
  have HO5 := Lib.hid hO5; clear hO5
  have HA5 := Lib.hid ha5; clear ha5
  have hgw5 : w.grownBy w5 (some X) := grow_seq hgw4 hg5 fun j e => .inr e
  have HR5 := Lib.hid (HR4.out.grown hg5 (fun e => by injection e with e; omega))
  clear o2 oF2
  have hmlt := shortV_lt (textR (textR (.ok rs)))
  have HGO := Lib.hid (getO_48 (n := n) HG.out)
  generalize textV (.ok rs) = sp at *
  generalize textV (textR (.ok rs)) = tv at *
  generalize shortV (textR (textR (.ok rs))) = m at *
  have HM : Hid (m ≤ 65535) := by (have h1 : m ≤ 65535 := by omega); exact h1
  go_wp2_with fail

  have hGETO : getO (n + 1) cur = finO n 48 (m) (sp, tv) (shortR (textR (textR (.ok rs)))) := HGO.out
  have HGETO := Lib.hid hGETO; clear hGETO
  go_loopw [7] (fun i wr => ∃ (k : Nat), ∃ A1 m1 d1 A2 m2 d2 l st, k ≤ m ∧ i = .int .i64 (k : Nat) ∧ l.length = k ∧ BoxAt wr w1.heap.size (.int .u16 (48 : Nat)) (.string (str sp)) (.string (str tv)) (.slice A1 m1 d1) (.slice A2 m2 d2) ∧ BoxAt wr w.heap.size (.int .u16 0) (.string (str [])) (.string (str [])) (.slice none 0 0) (.slice none 0 0) ∧ RdAt S wr X st ∧ OwnA 9 1 strP (w1.heap.size + 1) wr A1 m1 d1 (nmsO 48 l) ∧ OwnA 26 5 (optD (Sel w1.heap.size A1 A2) wr 9223372036854775807 (n + 1)) (w1.heap.size + 1) wr A2 m2 d2 (l.map (·.2)) ∧ Hid (∀ b, A1.map (·.block) = some b → A2.map (·.block) ≠ some b) ∧ w.grownBy wr (some X) ∧ Hid (Prg n 48 (m) (shortR (textR (textR (.ok rs)))) k l st)) (fun i _ => m - (intOf i).toNat)
  case atStart => exact ⟨0, none, 0, 0, none, 0, 0, [], _, by omega, rfl, rfl, HO5.out, HR5.out, HA5.out, (by (unfold nmsO; split <;> exact OwnA.nil)), OwnA.nil, (fun b h => by cases h), hgw5, Prg.zero _ _ _ _⟩
  case round =>
    obtain ⟨k, A1, m1, d1, A2, m2, d2, l, st, hk, rfl, hll, hO, hR, hA, hN, hK, HNE, hgr, HPRG⟩ := hrel
    have HLL := Lib.hid hll; clear hll
    have hzr := hgr.size
    have hNb : ∀ b, A1.map (·.block) = some b → w1.heap.size < b ∧ b < wr.heap.size := fun b e => by have := hN.block b e; omega
    have HNB := Lib.hid hNb; clear hNb
    have hKb : ∀ b, A2.map (·.block) = some b → w1.heap.size < b ∧ b < wr.heap.size := fun b e => by have := hK.block b e; omega
    have HKB := Lib.hid hKb; clear hKb
    by_cases hlt : k < m
    · cases st with
      | ok rs2 =>
        have hml := hK.len (by decide)
        have hmk : m2 ≤ 65536 := by have := HLL.out; rw [List.length_map] at hml; have := HM.out; omega
        clear hml
        have hmn := hN.len (by decide)
        have hmn2 : m1 ≤ 65536 := by have := HLL.out; have e : (nmsO 48 l).length = l.length := (by unfold nmsO; rw [if_pos rfl, List.length_map]); have := HM.out; omega
        clear hmn

        have hAl := hA.lt
        have hOl := hO.lt
        have hRl := hR.lt
        have o0 := hO.c0
        have o1 := hO.c1
        have o2 := hO.c2
        have o3 := hO.c3
        have o4 := hO.c4
        have HA := Lib.hid hA
        obtain ⟨AX2, nX2, cX2, x0, x1, x2, x3, x4⟩ := hA
        simp only [werr_ok] at x1
        clear x0 x2 x3 x4

        have of3 := hO.fr 3
        have of4 := hO.fr 4
        have HO := Lib.hid hO; clear hO
        have HR := Lib.hid hR; clear hR
        have HN := Lib.hid hN; clear hN
        have HK := Lib.hid hK; clear hK
        go_wp2_with fail
        refine regt_start (by kernel_rfl) ?_
        (refine regt_take 0 (v := ?_) (by rfl) (by kernel_rfl) (by kernel_rfl) (by kernel_rfl) (by exact fun _ _ _ h => h) (by rfl) ?_ ?_; rotate_left; focus (intro w hSw; go_simp; try with_reducible rfl))
        simp only [Act.put, List.setIfInBounds_toArray, List.set_cons_zero, List.set_cons_succ]
        (refine regt_take 2 (v := ?_) (by rfl) (by kernel_rfl) (by kernel_rfl) (by kernel_rfl) (by exact fun _ _ _ h => h) (by rfl) ?_ ?_; rotate_left; focus (intro w hSw; go_simp; try with_reducible rfl))
        simp only [Act.put, List.setIfInBounds_toArray, List.set_cons_zero, List.set_cons_succ]
        refine regt_two 1 3 (by kernel_rfl) (by rfl) (by rfl) (fun K hK => ?_) (fun K hK => ?_)
        focus
          go_simp
          refine hK.out _ _ (trivial) ?_
          clear hK K
          try simp only [Act.put, List.setIfInBounds_toArray, List.set_cons_zero, List.set_cons_succ]
          refine regt_call 3 (by kernel_rfl) (by rfl) (fun K hK => ?_)
          go_simp
          go_at_call 45; refine (rdtext_any (HA.out.after (by repeat (first | exact Below.refl _ _ | assumption | refine Below.drew ?_ | refine below_drewN ?_ _ | refine Below.alloc ?_ (by first | (simp; done) | omega | (simp; omega)) _ | refine Below.setCell ?_ (by first | (simp; done) | omega | (simp; omega)) _))) HX1.out).mono ?_; rintro et wt ⟨rfl, hAt, hgt⟩; have hzt := hgt.size; simp at hzt; have hlt1 : w1.heap.size < wt.heap.size := (by omega); have o3t : wt.cell? ⟨w1.heap.size, 3, none⟩ = some (.slice A1 m1 d1) := gcx hgt (fun e => by injection e with e; omega) (by go_simp); have f3t : wt.frozen? ⟨w1.heap.size, 3, none⟩ = false := gfroz hgt (fun e => by injection e with e; omega) (by simp; omega) (by go_simp); have HAt := Lib.hid hAt; clear hAt; have HNt := Lib.hid ((HN.out.after (Below.refl _ wr).drew).grown hgt (fun b e e2 => by injection e2 with e2; have := HNB.out b e; omega))
          refine hK.out _ _ (trivial) ?_
          clear hK K
          try simp only [Act.put, List.setIfInBounds_toArray, List.set_cons_zero, List.set_cons_succ]
          refine regt_call 4 (by kernel_rfl) (by rfl) (fun K hK => ?_)
          go_simp
          refine hK.out _ _ (trivial) ?_
          clear hK K
          try simp only [Act.put, List.setIfInBounds_toArray, List.set_cons_zero, List.set_cons_succ]
          refine regt_call 5 (by kernel_rfl) (by rfl) (fun K hK => ?_)
          refine step_appA rfl tyStr _ _ rfl (w1.heap.size + 1) _ _ _ (nmsO 48 l) rfl (HNt.out.after (by repeat (first | exact Below.refl _ _ | assumption | refine Below.drew ?_ | refine below_drewN ?_ _ | refine Below.alloc ?_ (by first | (simp; done) | omega | (simp; omega)) _ | refine Below.setCell ?_ (by first | (simp; done) | omega | (simp; omega)) _))) _ _ _ _ [textV (.ok rs2)] rfl (arr_lit (P := strP) _ #[.string (str (textV (.ok rs2)))] (textV (.ok rs2)) rfl ⟨rfl, by have := textV_len (.ok rs2); omega⟩ (by simp)) strP_one (fun _ _ _ h => h) (by omega) (by unfold maxLen; omega) (by simp; omega) ?_; intro A7 m7 d7 w7 hown7 hg7 hw7; have o37 : w7.cell? ⟨w1.heap.size, 3, none⟩ = some (.slice A1 m1 d1) := gcx hg7 (fun e => by have := HNB.out _ e; omega) (by go_simp); have f37 : w7.frozen? ⟨w1.heap.size, 3, none⟩ = false := gfroz hg7 (fun e => by have := HNB.out _ e.symm; omega) (by simp; omega) (by go_simp); have hz7 := hg7.size; simp at hz7; have HO7 := Lib.hid hown7; clear hown7
          refine hK.out _ _ (trivial) ?_
          clear hK K
          try simp only [Act.put, List.setIfInBounds_toArray, List.set_cons_zero, List.set_cons_succ]
          (refine regt_take 6 (v := ?_) (by rfl) (by kernel_rfl) (by kernel_rfl) (by kernel_rfl) (by exact fun _ _ _ h => h) (by rfl) ?_ ?_; rotate_left; focus (intro w hSw; go_simp; try with_reducible rfl))
          simp only [Act.put, List.setIfInBounds_toArray, List.set_cons_zero, List.set_cons_succ]
          refine regt_call 7 (by kernel_rfl) (by rfl) (fun K hK => ?_)
          go_simp
          refine hK.out _ _ (trivial) ?_
          clear hK K
          try simp only [Act.put, List.setIfInBounds_toArray, List.set_cons_zero, List.set_cons_succ]
          refine wpAnyH_done (by kernel_rfl) ?_ _
        rotate_left 1
        focus
          go_simp
          go_at_call 45; refine (rdtext_any (HA.out.after (by repeat (first | exact Below.refl _ _ | assumption | refine Below.drew ?_ | refine below_drewN ?_ _ | refine Below.alloc ?_ (by first | (simp; done) | omega | (simp; omega)) _ | refine Below.setCell ?_ (by first | (simp; done) | omega | (simp; omega)) _))) HX1.out).mono ?_; rintro et wt ⟨rfl, hAt, hgt⟩; have hzt := hgt.size; simp at hzt; have hlt1 : w1.heap.size < wt.heap.size := (by omega); have o3t : wt.cell? ⟨w1.heap.size, 3, none⟩ = some (.slice A1 m1 d1) := gcx hgt (fun e => by injection e with e; omega) (by go_simp); have f3t : wt.frozen? ⟨w1.heap.size, 3, none⟩ = false := gfroz hgt (fun e => by injection e with e; omega) (by simp; omega) (by go_simp); have HAt := Lib.hid hAt; clear hAt; have HNt := Lib.hid ((HN.out.after (Below.refl _ wr).drew).grown hgt (fun b e e2 => by injection e2 with e2; have := HNB.out b e; omega))
          refine hK.out _ _ (trivial) ?_
          clear hK K
          try simp only [Act.put, List.setIfInBounds_toArray, List.set_cons_zero, List.set_cons_succ]
          refine regt_two 1 4 (by kernel_rfl) (by rfl) (by rfl) (fun K hK => ?_) (fun K hK => ?_)
          focus
            go_simp
            refine hK.out _ _ (trivial) ?_
            clear hK K
            try simp only [Act.put, List.setIfInBounds_toArray, List.set_cons_zero, List.set_cons_succ]
            refine regt_call 4 (by kernel_rfl) (by rfl) (fun K hK => ?_)
            go_simp
            refine hK.out _ _ (trivial) ?_
            clear hK K
            try simp only [Act.put, List.setIfInBounds_toArray, List.set_cons_zero, List.set_cons_succ]
            refine regt_call 5 (by kernel_rfl) (by rfl) (fun K hK => ?_)
            refine step_appA rfl tyStr _ _ rfl (w1.heap.size + 1) _ _ _ (nmsO 48 l) rfl (HNt.out.after (by repeat (first | exact Below.refl _ _ | assumption | refine Below.drew ?_ | refine below_drewN ?_ _ | refine Below.alloc ?_ (by first | (simp; done) | omega | (simp; omega)) _ | refine Below.setCell ?_ (by first | (simp; done) | omega | (simp; omega)) _))) _ _ _ _ [textV (.ok rs2)] rfl (arr_lit (P := strP) _ #[.string (str (textV (.ok rs2)))] (textV (.ok rs2)) rfl ⟨rfl, by have := textV_len (.ok rs2); omega⟩ (by simp)) strP_one (fun _ _ _ h => h) (by omega) (by unfold maxLen; omega) (by simp; omega) ?_; intro A7 m7 d7 w7 hown7 hg7 hw7; have o37 : w7.cell? ⟨w1.heap.size, 3, none⟩ = some (.slice A1 m1 d1) := gcx hg7 (fun e => by have := HNB.out _ e; omega) (by go_simp); have f37 : w7.frozen? ⟨w1.heap.size, 3, none⟩ = false := gfroz hg7 (fun e => by have := HNB.out _ e.symm; omega) (by simp; omega) (by go_simp); have hz7 := hg7.size; simp at hz7; have HO7 := Lib.hid hown7; clear hown7
            refine hK.out _ _ (trivial) ?_
            clear hK K
            try simp only [Act.put, List.setIfInBounds_toArray, List.set_cons_zero, List.set_cons_succ]
            (refine regt_take 6 (v := ?_) (by rfl) (by kernel_rfl) (by kernel_rfl) (by kernel_rfl) (by exact fun _ _ _ h => h) (by rfl) ?_ ?_; rotate_left; focus (intro w hSw; go_simp; try with_reducible rfl))
            simp only [Act.put, List.setIfInBounds_toArray, List.set_cons_zero, List.set_cons_succ]
            refine regt_call 7 (by kernel_rfl) (by rfl) (fun K hK => ?_)
            go_simp
            refine hK.out _ _ (trivial) ?_
            clear hK K
            try simp only [Act.put, List.setIfInBounds_toArray, List.set_cons_zero, List.set_cons_succ]
            refine wpAnyH_done (by kernel_rfl) ?_ _
          rotate_left 1
          focus
            go_simp
            refine hK.out _ _ (trivial) ?_
            clear hK K
            try simp only [Act.put, List.setIfInBounds_toArray, List.set_cons_zero, List.set_cons_succ]
            refine regt_call 1 (by kernel_rfl) (by rfl) (fun K hK => ?_)
            go_simp
            refine hK.out _ _ (trivial) ?_
            clear hK K
            try simp only [Act.put, List.setIfInBounds_toArray, List.set_cons_zero, List.set_cons_succ]
            refine regt_call 5 (by kernel_rfl) (by rfl) (fun K hK => ?_)
            refine step_appA rfl tyStr _ _ rfl (w1.heap.size + 1) _ _ _ (nmsO 48 l) rfl (HNt.out.after (by repeat (first | exact Below.refl _ _ | assumption | refine Below.drew ?_ | refine below_drewN ?_ _ | refine Below.alloc ?_ (by first | (simp; done) | omega | (simp; omega)) _ | refine Below.setCell ?_ (by first | (simp; done) | omega | (simp; omega)) _))) _ _ _ _ [textV (.ok rs2)] rfl (arr_lit (P := strP) _ #[.string (str (textV (.ok rs2)))] (textV (.ok rs2)) rfl ⟨rfl, by have := textV_len (.ok rs2); omega⟩ (by simp)) strP_one (fun _ _ _ h => h) (by omega) (by unfold maxLen; omega) (by simp; omega) ?_; intro A7 m7 d7 w7 hown7 hg7 hw7; have o37 : w7.cell? ⟨w1.heap.size, 3, none⟩ = some (.slice A1 m1 d1) := gcx hg7 (fun e => by have := HNB.out _ e; omega) (by go_simp); have f37 : w7.frozen? ⟨w1.heap.size, 3, none⟩ = false := gfroz hg7 (fun e => by have := HNB.out _ e.symm; omega) (by simp; omega) (by go_simp); have hz7 := hg7.size; simp at hz7; have HO7 := Lib.hid hown7; clear hown7
            refine hK.out _ _ (trivial) ?_
            clear hK K
            try simp only [Act.put, List.setIfInBounds_toArray, List.set_cons_zero, List.set_cons_succ]
            (refine regt_take 6 (v := ?_) (by rfl) (by kernel_rfl) (by kernel_rfl) (by kernel_rfl) (by exact fun _ _ _ h => h) (by rfl) ?_ ?_; rotate_left; focus (intro w hSw; go_simp; try with_reducible rfl))
            simp only [Act.put, List.setIfInBounds_toArray, List.set_cons_zero, List.set_cons_succ]
            refine regt_call 7 (by kernel_rfl) (by rfl) (fun K hK => ?_)
            go_simp
            refine hK.out _ _ (trivial) ?_
            clear hK K
            try simp only [Act.put, List.setIfInBounds_toArray, List.set_cons_zero, List.set_cons_succ]
            refine wpAnyH_done (by kernel_rfl) ?_ _
        all_goals
          have hAt7 : wt.grownBy w7 (A1.map (·.block)) := grow_seq (grow_of_below (row := A1.map (·.block)) (by repeat (first | exact Below.refl _ _ | assumption | refine Below.drew ?_ | refine below_drewN ?_ _ | refine Below.alloc ?_ (by first | (simp; done) | omega | (simp; omega)) _ | refine Below.setCell ?_ (by first | (simp; done) | omega | (simp; omega)) _))) hg7 fun j e => .inr e
          have hA1X : A1.map (·.block) ≠ some X := fun e => by have := HNB.out _ e; omega
          have hA1O : A1.map (·.block) ≠ some w1.heap.size := fun e => by have := HNB.out _ e; omega
          have hA1R : A1.map (·.block) ≠ some w.heap.size := fun e => by have := HNB.out _ e; omega
          have hG9 := grow_setCell w7 w1.heap.size 3 (.slice A7 m7 d7)
          have HO9 := Lib.hid ((((HO.out.after (Below.refl _ wr).drew).grown hgt (fun e => by injection e with e; omega)).grown hAt7 hA1O).set3 (.slice A7 m7 d7))
          have HR9 := Lib.hid ((((HR.out.after (Below.refl _ wr).drew).grown hgt (fun e => by injection e with e; omega)).grown hAt7 hA1R).setOther (j := w1.heap.size) (i := 3) (by omega) (.slice A7 m7 d7))
          have HA9 := Lib.hid ((HAt.out.grown hAt7 hA1X (fun b h e => by have := HNB.out b e; have := HS.out b h; omega)).set (j := w1.heap.size) (i := 3) (by omega) (fun b h => by have := HS.out b h; omega) (.slice A7 m7 d7))
          have hN7b : ∀ b, A7.map (·.block) = some b → w1.heap.size < b ∧ b < w7.heap.size ∧ A2.map (·.block) ≠ some b := fun b e => ⟨by have := (HO7.out.block b e).1; omega, (HO7.out.block b e).2, fun e2 => by rcases hw7 b e with h | h; exact HNE.out b h e2; have := (HKB.out b e2).2; simp at h; omega⟩
          have HN9 := Lib.hid (HO7.out.grown hG9 (fun b e e2 => by injection e2 with e2; have h := (hN7b b e).1; omega))
          have HK9 : Hid (OwnA 26 5 (optD (Sel w1.heap.size A7 A2) (w7.setCell ⟨w1.heap.size, 3, none⟩ (.slice A7 m7 d7)) 9223372036854775807 (n + 1)) (w1.heap.size + 1) (w7.setCell ⟨w1.heap.size, 3, none⟩ (.slice A7 m7 d7)) A2 m2 d2 (l.map (·.2))) :=
            ((((HK.out.after (Below.refl _ wr).drew).grown hgt (fun b e e2 => by injection e2 with e2; have := HKB.out b e; omega)).grown hAt7 (fun b e e2 => HNE.out b e2.symm e)).grown hG9 (fun b e e2 => by injection e2 with e2; have := HKB.out b e; omega)).imp fun x _ v h => (((((h.mono (S' := fun b => Sel w1.heap.size A1 A2 b ∧ b < wr.heap.size) fun b h1 h2 => ⟨h1, h2⟩).keep (Below.refl wr.heap.size wr).drew.size fun b _ hb => (Below.refl wr.heap.size wr).drew.block b hb).keep hgt.size fun b hs hb => hgt.block b hb (fun e => by injection e with e; have := hs.1.1; omega)).keep hAt7.size fun b hs hb => hAt7.block b hb (fun e => hs.1.2.1 e.symm)).keep hG9.size fun b hs hb => hG9.block b hb (fun e => by injection e with e; have := hs.1.1; omega)).mono (S' := Sel w1.heap.size A7 A2) fun b hs _ => ⟨hs.1.1, fun e => by rcases hw7 b e with h1 | h1; exact hs.1.2.1 h1; simp at h1; have := hs.2; omega, hs.1.2.2⟩
          have hg9 : w.grownBy (w7.setCell ⟨w1.heap.size, 3, none⟩ (.slice A7 m7 d7)) (some X) := grow_seq (grow_seq (grow_seq (grow_seq hgr (grow_of_below (row := some X) (Below.refl _ wr).drew) fun j e => .inr e) hgt fun j e => .inr e) hAt7 (fun j e => by have := HNB.out j e; left; omega)) hG9 (fun j e => by injection e with e; left; omega)
          have hz97 : (w7.setCell ⟨w1.heap.size, 3, none⟩ (.slice A7 m7 d7)).heap.size = w7.heap.size := by simp
          have hz9 : wr.heap.size ≤ (w7.setCell ⟨w1.heap.size, 3, none⟩ (.slice A7 m7 d7)).heap.size := by simp; omega
          have HN7B : Hid (∀ b, A7.map (·.block) = some b → w1.heap.size < b ∧ b < (w7.setCell ⟨w1.heap.size, 3, none⟩ (.slice A7 m7 d7)).heap.size ∧ A2.map (·.block) ≠ some b) := fun b e => by rw [hz97]; exact hN7b b e
          have q0 := HO9.out.c0
          have q4 := HO9.out.c4
          have qf4 := HO9.out.fr 4
          have hl9 : w1.heap.size < (w7.setCell ⟨w1.heap.size, 3, none⟩ (.slice A7 m7 d7)).heap.size := by simp; omega
          clear hAt7 hA1X hA1O hA1R hG9 hN7b hz97 o37 f37 o3t f3t o0 o1 o2 o3 o4 of3 of4 x1
          clear hw7 hg7 hz7
          generalize hw9 : w7.setCell ⟨w1.heap.size, 3, none⟩ (.slice A7 m7 d7) = w9 at *
          clear hw9
          go_wp2_with fail
          refine regt_start (by kernel_rfl) ?_
          (refine regt_take 0 (v := ?_) (by rfl) (by kernel_rfl) (by kernel_rfl) (by kernel_rfl) (by exact fun _ _ _ h => h) (by rfl) ?_ ?_; rotate_left; focus (intro w hSw; go_simp; try with_reducible rfl))
          simp only [Act.put, List.setIfInBounds_toArray, List.set_cons_zero, List.set_cons_succ]
          (refine regt_take 2 (v := ?_) (by rfl) (by kernel_rfl) (by kernel_rfl) (by kernel_rfl) (by exact fun _ _ _ h => h) (by rfl) ?_ ?_; rotate_left; focus (intro w hSw; go_simp; try with_reducible rfl))
          simp only [Act.put, List.setIfInBounds_toArray, List.set_cons_zero, List.set_cons_succ]
          (refine regt_take 3 (v := ?_) (by rfl) (by kernel_rfl) (by kernel_rfl) (by kernel_rfl) (by exact fun _ _ _ h => h) (by rfl) ?_ ?_; rotate_left; focus (intro w hSw; go_simp; try with_reducible rfl))
          simp only [Act.put, List.setIfInBounds_toArray, List.set_cons_zero, List.set_cons_succ]
          (refine regt_take 4 (v := ?_) (by rfl) (by kernel_rfl) (by kernel_rfl) (by kernel_rfl) (by exact fun _ _ _ h => h) (by rfl) ?_ ?_; rotate_left; focus (intro w hSw; go_simp; try with_reducible rfl))
          simp only [Act.put, List.setIfInBounds_toArray, List.set_cons_zero, List.set_cons_succ]
          refine regt_two 1 5 (by kernel_rfl) (by rfl) (by rfl) (fun K hK => ?_) (fun K hK => ?_)
          focus
            go_simp
            refine hK.out _ _ (trivial) ?_
            clear hK K
            try simp only [Act.put, List.setIfInBounds_toArray, List.set_cons_zero, List.set_cons_succ]
            refine regt_call 5 (by kernel_rfl) (by rfl) (fun K hK => ?_)
            go_simp
            go_at_call 28; have hwr : IntKind.i64.wrap (deep + 1) = deep + 1 := (wrap_small _ (by omega) (by omega)); rw [hwr]; clear hwr; refine (ih (deep := deep + 1) (HA9.out.after (by repeat (first | exact Below.refl _ _ | assumption | refine Below.drew ?_ | refine below_drewN ?_ _ | refine Below.alloc ?_ (by first | (simp; done) | omega | (simp; omega)) _ | refine Below.setCell ?_ (by first | (simp; done) | omega | (simp; omega)) _))) HS.out hX ((HPL.out.grown hg9 (fun e => by injection e with e; omega)).after (by repeat (first | exact Below.refl _ _ | assumption | refine Below.drew ?_ | refine below_drewN ?_ _ | refine Below.alloc ?_ (by first | (simp; done) | omega | (simp; omega)) _ | refine Below.setCell ?_ (by first | (simp; done) | omega | (simp; omega)) _))) (by omega) (by omega)).mono ?_; rintro ek wk ⟨B1, p1, q1, B2, p2, q2, ox, sx, rfl, hRx, hAx, hgx, hPx⟩; have hzk := hgx.size; simp at hzk; have hzw9 := hz9; have hlk : w1.heap.size < wk.heap.size := (by omega); have o4k : wk.cell? ⟨w1.heap.size, 4, none⟩ = some (.slice A2 m2 d2) := gcx hgx (fun e => by injection e with e; omega) (by go_simp); have f4k : wk.frozen? ⟨w1.heap.size, 4, none⟩ = false := gfroz hgx (fun e => by injection e with e; omega) (by simp; omega) (by go_simp); have HRx := Lib.hid hRx; clear hRx; have HAx := Lib.hid hAx; clear hAx; have HPx := Lib.hid hPx; clear hPx; have HKk := Lib.hid (((HK9.out.after (Below.refl _ w9).drew).grown hgx (fun b e e2 => by injection e2 with e2; have := HKB.out b e; omega)).imp (P' := optD (Sel w1.heap.size A7 A2) wk 9223372036854775807 (n + 1)) fun x _ v h => (h.keep (Below.refl w9.heap.size w9).drew.size fun b _ hb => (Below.refl w9.heap.size w9).drew.block b hb).keep hgx.size fun b hs hb => hgx.block b hb (fun e => by injection e with e; have := hs.1; omega))
            refine hK.out _ _ (trivial) ?_
            clear hK K
            try simp only [Act.put, List.setIfInBounds_toArray, List.set_cons_zero, List.set_cons_succ]
            refine regt_call 6 (by kernel_rfl) (by rfl) (fun K hK => ?_)
            go_simp
            refine hK.out _ _ (trivial) ?_
            clear hK K
            try simp only [Act.put, List.setIfInBounds_toArray, List.set_cons_zero, List.set_cons_succ]
            refine regt_call 7 (by kernel_rfl) (by rfl) (fun K hK => ?_)
            refine step_appA rfl tyOpt _ _ rfl (w1.heap.size + 1) _ _ _ (l.map (·.2)) rfl (HKk.out.after (by repeat (first | exact Below.refl _ _ | assumption | refine Below.drew ?_ | refine below_drewN ?_ _ | refine Below.alloc ?_ (by first | (simp; done) | omega | (simp; omega)) _ | refine Below.setCell ?_ (by first | (simp; done) | omega | (simp; omega)) _))) _ _ _ _ [ox] rfl (arr_lit (P := optD (Sel w1.heap.size A7 A2) wk 9223372036854775807 (n + 1)) _ #[.int .u16 (ox.id : Int), .string (str ox.space), .string (str ox.name), .slice B1 p1 q1, .slice B2 p2 q2] ox rfl (HRx.out.mono (S' := Sel w1.heap.size A7 A2) fun b hb _ => ⟨by (have hb2 : _ ≤ b := hb; simp at hb2; omega), fun e => by (have hb2 : _ ≤ b := hb; have := (fun b e => (HN7B.out b e).2.1) b e; simp at hb2; omega), fun e => by (have hb2 : _ ≤ b := hb; have := HKB.out b e; simp at hb2; omega)⟩).to (by simp)) (fun _ _ h => h.one) (fun _ _ _ h => h) (by omega) (by unfold maxLen; omega) (by simp; omega) ?_; intro A4 m4 d4 w5 hown5 hg5 hw5; have o45 : w5.cell? ⟨w1.heap.size, 4, none⟩ = some (.slice A2 m2 d2) := gcx hg5 (fun e => by have := HKB.out _ e; omega) (by go_simp); have f45 : w5.frozen? ⟨w1.heap.size, 4, none⟩ = false := gfroz hg5 (fun e => by have := HKB.out _ e.symm; omega) (by simp; omega) (by go_simp); have hz5 := hg5.size; simp at hz5; have HO5 := Lib.hid hown5; clear hown5
            refine hK.out _ _ (trivial) ?_
            clear hK K
            try simp only [Act.put, List.setIfInBounds_toArray, List.set_cons_zero, List.set_cons_succ]
            (refine regt_take 8 (v := ?_) (by rfl) (by kernel_rfl) (by kernel_rfl) (by kernel_rfl) (by exact fun _ _ _ h => h) (by rfl) ?_ ?_; rotate_left; focus (intro w hSw; go_simp; try with_reducible rfl))
            simp only [Act.put, List.setIfInBounds_toArray, List.set_cons_zero, List.set_cons_succ]
            refine regt_call 9 (by kernel_rfl) (by rfl) (fun K hK => ?_)
            go_simp
            refine hK.out _ _ (trivial) ?_
            clear hK K
            try simp only [Act.put, List.setIfInBounds_toArray, List.set_cons_zero, List.set_cons_succ]
            refine wpAnyH_done (by kernel_rfl) ?_ _
          rotate_left 1
          focus
            go_simp
            go_at_call 28; have hwr : IntKind.i64.wrap (deep + 1) = deep + 1 := (wrap_small _ (by omega) (by omega)); rw [hwr]; clear hwr; refine (ih (deep := deep + 1) (HA9.out.after (by repeat (first | exact Below.refl _ _ | assumption | refine Below.drew ?_ | refine below_drewN ?_ _ | refine Below.alloc ?_ (by first | (simp; done) | omega | (simp; omega)) _ | refine Below.setCell ?_ (by first | (simp; done) | omega | (simp; omega)) _))) HS.out hX ((HPL.out.grown hg9 (fun e => by injection e with e; omega)).after (by repeat (first | exact Below.refl _ _ | assumption | refine Below.drew ?_ | refine below_drewN ?_ _ | refine Below.alloc ?_ (by first | (simp; done) | omega | (simp; omega)) _ | refine Below.setCell ?_ (by first | (simp; done) | omega | (simp; omega)) _))) (by omega) (by omega)).mono ?_; rintro ek wk ⟨B1, p1, q1, B2, p2, q2, ox, sx, rfl, hRx, hAx, hgx, hPx⟩; have hzk := hgx.size; simp at hzk; have hzw9 := hz9; have hlk : w1.heap.size < wk.heap.size := (by omega); have o4k : wk.cell? ⟨w1.heap.size, 4, none⟩ = some (.slice A2 m2 d2) := gcx hgx (fun e => by injection e with e; omega) (by go_simp); have f4k : wk.frozen? ⟨w1.heap.size, 4, none⟩ = false := gfroz hgx (fun e => by injection e with e; omega) (by simp; omega) (by go_simp); have HRx := Lib.hid hRx; clear hRx; have HAx := Lib.hid hAx; clear hAx; have HPx := Lib.hid hPx; clear hPx; have HKk := Lib.hid (((HK9.out.after (Below.refl _ w9).drew).grown hgx (fun b e e2 => by injection e2 with e2; have := HKB.out b e; omega)).imp (P' := optD (Sel w1.heap.size A7 A2) wk 9223372036854775807 (n + 1)) fun x _ v h => (h.keep (Below.refl w9.heap.size w9).drew.size fun b _ hb => (Below.refl w9.heap.size w9).drew.block b hb).keep hgx.size fun b hs hb => hgx.block b hb (fun e => by injection e with e; have := hs.1; omega))
            refine hK.out _ _ (trivial) ?_
            clear hK K
            try simp only [Act.put, List.setIfInBounds_toArray, List.set_cons_zero, List.set_cons_succ]
            refine regt_two 1 6 (by kernel_rfl) (by rfl) (by rfl) (fun K hK => ?_) (fun K hK => ?_)
            focus
              go_simp
              refine hK.out _ _ (trivial) ?_
              clear hK K
              try simp only [Act.put, List.setIfInBounds_toArray, List.set_cons_zero, List.set_cons_succ]
              refine regt_call 6 (by kernel_rfl) (by rfl) (fun K hK => ?_)
              go_simp
              refine hK.out _ _ (trivial) ?_
              clear hK K
              try simp only [Act.put, List.setIfInBounds_toArray, List.set_cons_zero, List.set_cons_succ]
              refine regt_call 7 (by kernel_rfl) (by rfl) (fun K hK => ?_)
              refine step_appA rfl tyOpt _ _ rfl (w1.heap.size + 1) _ _ _ (l.map (·.2)) rfl (HKk.out.after (by repeat (first | exact Below.refl _ _ | assumption | refine Below.drew ?_ | refine below_drewN ?_ _ | refine Below.alloc ?_ (by first | (simp; done) | omega | (simp; omega)) _ | refine Below.setCell ?_ (by first | (simp; done) | omega | (simp; omega)) _))) _ _ _ _ [ox] rfl (arr_lit (P := optD (Sel w1.heap.size A7 A2) wk 9223372036854775807 (n + 1)) _ #[.int .u16 (ox.id : Int), .string (str ox.space), .string (str ox.name), .slice B1 p1 q1, .slice B2 p2 q2] ox rfl (HRx.out.mono (S' := Sel w1.heap.size A7 A2) fun b hb _ => ⟨by (have hb2 : _ ≤ b := hb; simp at hb2; omega), fun e => by (have hb2 : _ ≤ b := hb; have := (fun b e => (HN7B.out b e).2.1) b e; simp at hb2; omega), fun e => by (have hb2 : _ ≤ b := hb; have := HKB.out b e; simp at hb2; omega)⟩).to (by simp)) (fun _ _ h => h.one) (fun _ _ _ h => h) (by omega) (by unfold maxLen; omega) (by simp; omega) ?_; intro A4 m4 d4 w5 hown5 hg5 hw5; have o45 : w5.cell? ⟨w1.heap.size, 4, none⟩ = some (.slice A2 m2 d2) := gcx hg5 (fun e => by have := HKB.out _ e; omega) (by go_simp); have f45 : w5.frozen? ⟨w1.heap.size, 4, none⟩ = false := gfroz hg5 (fun e => by have := HKB.out _ e.symm; omega) (by simp; omega) (by go_simp); have hz5 := hg5.size; simp at hz5; have HO5 := Lib.hid hown5; clear hown5
              refine hK.out _ _ (trivial) ?_
              clear hK K
              try simp only [Act.put, List.setIfInBounds_toArray, List.set_cons_zero, List.set_cons_succ]
              (refine regt_take 8 (v := ?_) (by rfl) (by kernel_rfl) (by kernel_rfl) (by kernel_rfl) (by exact fun _ _ _ h => h) (by rfl) ?_ ?_; rotate_left; focus (intro w hSw; go_simp; try with_reducible rfl))
              simp only [Act.put, List.setIfInBounds_toArray, List.set_cons_zero, List.set_cons_succ]
              refine regt_call 9 (by kernel_rfl) (by rfl) (fun K hK => ?_)
              go_simp
              refine hK.out _ _ (trivial) ?_
              clear hK K
              try simp only [Act.put, List.setIfInBounds_toArray, List.set_cons_zero, List.set_cons_succ]
              refine wpAnyH_done (by kernel_rfl) ?_ _
            rotate_left 1
            focus
              go_simp
              refine hK.out _ _ (trivial) ?_
              clear hK K
              try simp only [Act.put, List.setIfInBounds_toArray, List.set_cons_zero, List.set_cons_succ]
              refine regt_call 1 (by kernel_rfl) (by rfl) (fun K hK => ?_)
              go_simp
              refine hK.out _ _ (trivial) ?_
              clear hK K
              try simp only [Act.put, List.setIfInBounds_toArray, List.set_cons_zero, List.set_cons_succ]
              refine regt_call 7 (by kernel_rfl) (by rfl) (fun K hK => ?_)
              refine step_appA rfl tyOpt _ _ rfl (w1.heap.size + 1) _ _ _ (l.map (·.2)) rfl (HKk.out.after (by repeat (first | exact Below.refl _ _ | assumption | refine Below.drew ?_ | refine below_drewN ?_ _ | refine Below.alloc ?_ (by first | (simp; done) | omega | (simp; omega)) _ | refine Below.setCell ?_ (by first | (simp; done) | omega | (simp; omega)) _))) _ _ _ _ [ox] rfl (arr_lit (P := optD (Sel w1.heap.size A7 A2) wk 9223372036854775807 (n + 1)) _ #[.int .u16 (ox.id : Int), .string (str ox.space), .string (str ox.name), .slice B1 p1 q1, .slice B2 p2 q2] ox rfl (HRx.out.mono (S' := Sel w1.heap.size A7 A2) fun b hb _ => ⟨by (have hb2 : _ ≤ b := hb; simp at hb2; omega), fun e => by (have hb2 : _ ≤ b := hb; have := (fun b e => (HN7B.out b e).2.1) b e; simp at hb2; omega), fun e => by (have hb2 : _ ≤ b := hb; have := HKB.out b e; simp at hb2; omega)⟩).to (by simp)) (fun _ _ h => h.one) (fun _ _ _ h => h) (by omega) (by unfold maxLen; omega) (by simp; omega) ?_; intro A4 m4 d4 w5 hown5 hg5 hw5; have o45 : w5.cell? ⟨w1.heap.size, 4, none⟩ = some (.slice A2 m2 d2) := gcx hg5 (fun e => by have := HKB.out _ e; omega) (by go_simp); have f45 : w5.frozen? ⟨w1.heap.size, 4, none⟩ = false := gfroz hg5 (fun e => by have := HKB.out _ e.symm; omega) (by simp; omega) (by go_simp); have hz5 := hg5.size; simp at hz5; have HO5 := Lib.hid hown5; clear hown5
              refine hK.out _ _ (trivial) ?_
              clear hK K
              try simp only [Act.put, List.setIfInBounds_toArray, List.set_cons_zero, List.set_cons_succ]
              (refine regt_take 8 (v := ?_) (by rfl) (by kernel_rfl) (by kernel_rfl) (by kernel_rfl) (by exact fun _ _ _ h => h) (by rfl) ?_ ?_; rotate_left; focus (intro w hSw; go_simp; try with_reducible rfl))
              simp only [Act.put, List.setIfInBounds_toArray, List.set_cons_zero, List.set_cons_succ]
              refine regt_call 9 (by kernel_rfl) (by rfl) (fun K hK => ?_)
              go_simp
              refine hK.out _ _ (trivial) ?_
              clear hK K
              try simp only [Act.put, List.setIfInBounds_toArray, List.set_cons_zero, List.set_cons_succ]
              refine wpAnyH_done (by kernel_rfl) ?_ _
          all_goals
            have hAb : wk.grownBy w5 (A2.map (·.block)) := grow_seq (grow_of_below (row := A2.map (·.block)) (by repeat (first | exact Below.refl _ _ | assumption | refine Below.drew ?_ | refine below_drewN ?_ _ | refine Below.alloc ?_ (by first | (simp; done) | omega | (simp; omega)) _ | refine Below.setCell ?_ (by first | (simp; done) | omega | (simp; omega)) _))) hg5 fun j e => .inr e
            have hA2X : A2.map (·.block) ≠ some X := fun e => by have := HKB.out _ e; omega
            have hA2O : A2.map (·.block) ≠ some w1.heap.size := fun e => by have := HKB.out _ e; omega
            have hA2R : A2.map (·.block) ≠ some w.heap.size := fun e => by have := HKB.out _ e; omega
            have hXO : ∀ b, w1.heap.size ≤ b → (some X : Option Nat) ≠ some b := fun b h e => by injection e with e; omega
            have hG6 := grow_setCell w5 w1.heap.size 4 (.slice A4 m4 d4)
            have hNX : ∀ b, A7.map (·.block) = some b → w1.heap.size < b ∧ A2.map (·.block) ≠ some b := fun b e => ⟨(HN7B.out b e).1, (HN7B.out b e).2.2⟩
            have B6 := Lib.hid ((((HO9.out.after (Below.refl _ w9).drew).grown hgx (hXO _ (Nat.le_refl _))).grown hAb hA2O).set4 (.slice A4 m4 d4))
            have R6 := Lib.hid ((((HR9.out.after (Below.refl _ w9).drew).grown hgx (fun e => by injection e with e; omega)).grown hAb hA2R).setOther (j := w1.heap.size) (i := 4) (by omega) (.slice A4 m4 d4))
            have D6 := Lib.hid ((HAx.out.grown hAb hA2X (fun b h e => by have := HKB.out b e; have := HS.out b h; omega)).set (j := w1.heap.size) (i := 4) (by omega) (fun b h => by have := HS.out b h; omega) (.slice A4 m4 d4))
            have N6 := Lib.hid ((((HN9.out.after (Below.refl _ w9).drew).grown hgx (fun b e => by have h := hNX b e; intro e2; injection e2 with e2; omega)).grown hAb (fun b e e2 => (hNX b e).2 e2.symm)).grown hG6 (fun b e e2 => by injection e2 with e2; have h := hNX b e; omega))
            have hw4 : ∀ b, A4.map (·.block) = some b → w1.heap.size < b := fun b e => by rcases hw5 b e with h1 | h1; exact (HKB.out b h1).1; simp at h1; omega
            have K6 : Hid (OwnA 26 5 (optD (Sel w1.heap.size A7 A4) (w5.setCell ⟨w1.heap.size, 4, none⟩ (.slice A4 m4 d4)) 9223372036854775807 (n + 1)) (w1.heap.size + 1) (w5.setCell ⟨w1.heap.size, 4, none⟩ (.slice A4 m4 d4)) A4 m4 d4 ((l ++ [(textV (.ok rs2), ox)] : List (B × Opt)).map fun x => x.2)) := by
              rw [List.map_append]
              exact (HO5.out.grown hG6 (fun b e e2 => by injection e2 with e2; have := hw4 b e; omega)).imp fun x _ v h => (((h.mono (S' := fun b => Sel w1.heap.size A7 A2 b ∧ b < wk.heap.size) fun b h1 h2 => ⟨h1, h2⟩).keep hAb.size fun b hs hb => hAb.block b hb (fun e => hs.1.2.2 e.symm)).keep hG6.size fun b hs hb => hG6.block b hb (fun e => by injection e with e; have := hs.1.1; omega)).mono (S' := Sel w1.heap.size A7 A4) fun b hs _ => ⟨hs.1.1, hs.1.2.1, fun e => by rcases hw5 b e with h1 | h1; exact hs.1.2.2 h1; simp at h1; have := hs.2; omega⟩
            have E6 : Hid (∀ b, A7.map (·.block) = some b → A4.map (·.block) ≠ some b) := fun b e1 e2 => by rcases hw5 b e2 with h | h; exact (hNX b e1).2 h; have := (fun b e => (HN7B.out b e).2.1) b e1; simp at h; omega
            have G6 : w.grownBy (w5.setCell ⟨w1.heap.size, 4, none⟩ (.slice A4 m4 d4)) (some X) := grow_seq (grow_seq (grow_seq (grow_seq hg9 (grow_of_below (row := some X) (Below.refl _ w9).drew) fun j e => .inr e) hgx fun j e => .inr e) hAb (fun j e => by have := HKB.out j e; left; omega)) hG6 (fun j e => by injection e with e; left; omega)
            have P6 : Hid (Prg n 48 (m) (shortR (textR (textR (.ok rs)))) (k + 1) (l ++ [(textV (.ok rs2), ox)]) sx) := HPRG.out.step hlt (textV (.ok rs2), ox) sx (kid_48 HPx.out).1 (kid_48 HPx.out).2
            have L6 : (l ++ [(textV (.ok rs2), ox)]).length = k + 1 := by have := HLL.out; simp; omega
            have N7 := N6.out
            have e7 : nmsO 48 (l ++ [(textV (.ok rs2), ox)]) = nmsO 48 l ++ [textV (.ok rs2)] := nms_snoc_48 l _
            rw [← e7] at N7
            clear hAb hA2X hA2O hA2R hXO hG6 hNX hw4 o45 f45 o4k f4k
            go_wp2_with fail
            exact ⟨⟨k + 1, A7, m7, d7, A4, m4, d4, l ++ [(textV (.ok rs2), ox)], sx, by omega, by go_num, L6, B6.out, R6.out, D6.out, N7, K6.out, E6, G6, P6⟩, by simp [intOf]; omega⟩
      | error ee =>
        have hf := HPRG.out.fin (hd := (sp, tv)) (.inr ⟨_, rfl⟩) _ HGETO.out.symm
        have HP : Hid (RdPost (n + 1) (.ok cur) (mkO 48 (sp, tv) l) _) := ⟨fun cu e r hr => by injection e with e; subst e; subst hr; exact hf, fun e h => by cases h⟩
        clear hf
        have HF : Hid (OptR (fun b => w.heap.size < b) wr 9223372036854775807 (n + 1) A1 m1 d1 A2 m2 d2 (mkO 48 (sp, tv) l)) := ⟨hid, hSPL, hNML, (hN.arr (by decide)).mono fun b h _ => by omega, ((hK.arr (by decide)).mono fun b h _ => by omega).imp fun _ _ _ h => h.mono fun b h _ => by (have := h.1; omega)⟩
        clear hN hK

        have hAl := hA.lt
        have hOl := hO.lt
        have hRl := hR.lt
        have o0 := hO.c0
        have o1 := hO.c1
        have o2 := hO.c2
        have o3 := hO.c3
        have o4 := hO.c4
        have HA := Lib.hid hA
        obtain ⟨AX2, nX2, cX2, x0, x1, x2, x3, x4⟩ := hA
        simp only [werr_error] at x1
        have hne : ee ≠ 0 := x4 ee rfl
        clear x0 x2 x3 x4

        have r0 := hR.c0
        have r1 := hR.c1
        have r2 := hR.c2
        have r3 := hR.c3
        have r4 := hR.c4
        have f0 := hR.fr 0
        have f1 := hR.fr 1
        have f2 := hR.fr 2
        have f3 := hR.fr 3
        have f4 := hR.fr 4
        clear hO hR
        go_wp2_with fail
        refine bodyPost_ret (v := .agg #[.int .u16 (48 : Nat), .string (str sp), .string (str tv), .slice A1 m1 d1, .slice A2 m2 d2]) (by simp [results, Tryd.results28, go_sem, r0, r1, r2, r3, r4]) rfl ?_
        have hg5 := grow5 wr w.heap.size (.int .u16 (48 : Nat)) (.string (str sp)) (.string (str tv)) (.slice A1 m1 d1) (.slice A2 m2 d2)
        have HF5 := (HF.out.grown hg5 (fun b (h : _ < b) e => by injection e with e; omega)).mono (S' := fun b => w.heap.size ≤ b) fun b (h : _ < b) _ => by omega
        have HA5 := HA.out.grown hg5 (fun e => by injection e with e; omega) (fun b h e => by injection e with e; have := HS.out b h; omega)
        have HG5 : w.grownBy _ (some X) := grow_seq hgr hg5 fun j e => by (injection e with e; left; omega)
        first
          | exact ⟨_, _, _, _, _, _, (mkO 48 (sp, tv) l), _, rfl, HF5, HA5, HG5, HP.out⟩
          | exact ⟨_, _, _, _, _, _, (mkO 48 (sp, tv) l), rfl, HF5, _, HA5, HG5, HP.out⟩
    · obtain hkm : k = m := by omega
      have HKM := Lib.hid hkm; clear hkm
      have hf := HPRG.out.fin (hd := (sp, tv)) (.inl HKM.out) _ HGETO.out.symm
      have HP : Hid (RdPost (n + 1) (.ok cur) (mkO 48 (sp, tv) l) _) := ⟨fun cu e r hr => by injection e with e; subst e; subst hr; exact hf, fun e h => by cases h⟩
      clear hf
      have HF : Hid (OptR (fun b => w.heap.size < b) wr 9223372036854775807 (n + 1) A1 m1 d1 A2 m2 d2 (mkO 48 (sp, tv) l)) := ⟨hid, hSPL, hNML, (hN.arr (by decide)).mono fun b h _ => by omega, ((hK.arr (by decide)).mono fun b h _ => by omega).imp fun _ _ _ h => h.mono fun b h _ => by (have := h.1; omega)⟩
      clear hN hK

      have hAl := hA.lt
      have hOl := hO.lt
      have hRl := hR.lt
      have o0 := hO.c0
      have o1 := hO.c1
      have o2 := hO.c2
      have o3 := hO.c3
      have o4 := hO.c4
      have HA := Lib.hid hA
      obtain ⟨AX2, nX2, cX2, x0, x1, x2, x3, x4⟩ := hA
      skip
      clear x0 x2 x3 x4

      have r0 := hR.c0
      have r1 := hR.c1
      have r2 := hR.c2
      have r3 := hR.c3
      have r4 := hR.c4
      have f0 := hR.fr 0
      have f1 := hR.fr 1
      have f2 := hR.fr 2
      have f3 := hR.fr 3
      have f4 := hR.fr 4
      clear hO hR
      go_wp2_with fail
      refine bodyPost_ret (v := .agg #[.int .u16 (48 : Nat), .string (str sp), .string (str tv), .slice A1 m1 d1, .slice A2 m2 d2]) (by simp [results, Tryd.results28, go_sem, r0, r1, r2, r3, r4]) rfl ?_
      have hg5 := grow5 wr w.heap.size (.int .u16 (48 : Nat)) (.string (str sp)) (.string (str tv)) (.slice A1 m1 d1) (.slice A2 m2 d2)
      have HF5 := (HF.out.grown hg5 (fun b (h : _ < b) e => by injection e with e; omega)).mono (S' := fun b => w.heap.size ≤ b) fun b (h : _ < b) _ => by omega
      have HA5 := HA.out.grown hg5 (fun e => by injection e with e; omega) (fun b h e => by injection e with e; have := HS.out b h; omega)
      have HG5 : w.grownBy _ (some X) := grow_seq hgr hg5 fun j e => by (injection e with e; left; omega)
      first
        | exact ⟨_, _, _, _, _, _, (mkO 48 (sp, tv) l), _, rfl, HF5, HA5, HG5, HP.out⟩
        | exact ⟨_, _, _, _, _, _, (mkO 48 (sp, tv) l), rfl, HF5, _, HA5, HG5, HP.out⟩
end Go.Proofs.Sb
