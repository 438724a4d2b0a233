/- Walk over signalboxref10.Put. Conditions: what is put is at most 2^47 bytes. (written by gen_trj.py) -/
import Derived.Test.YtenhgcgdhaegaaaDoorTrh
import Derived.Test.YtenhgcgdhaegaaaDoorTaq
import Derived.Test.YtenhgcgdhaegaaaDoorOptr
set_option linter.unusedVariables false
set_option linter.unusedSimpArgs false
namespace Sb
/-- what is still to be put of columns from k on -/
def colRem (D : Nat) (g : Bool) (cs : List Col) (k : Nat) : Wr := if k = 0 then bothW (allW g cs) (putsM (colW D g) cs) else putsM (colW D g) (cs.drop k)
theorem putsM_con {α : Type} (f : α → Wr) (x : α) (l : List α) : putsM f (x :: l) = bothW (f x) (putsM f l) := by
  simp only [putsM]
  cases f x <;> cases putsM f l <;> rfl
theorem drop_con {α : Type} {l : List α} {k : Nat} {x : α} (h : l[k]? = some x) : l.drop k = x :: l.drop (k + 1) := by
  obtain ⟨hk, rfl⟩ := List.getElem?_eq_some_iff.1 h
  exact List.drop_eq_getElem_cons hk
def nmsL (g : Bool) (k : Nat) (x : Col) : List B := if (g && decide (0 < k)) = true then [x.name] else [x.space, x.table, x.name]
theorem nmsL_W (g : Bool) (k : Nat) (x : Col) : putsM text (nmsL g k x) = bothW (if (g && decide (0 < k)) = true then .ok [] else nmsW x) (text x.name) := by
  unfold nmsL
  split
  · rw [putsM_con, show putsM text [] = .ok [] from rfl, bothW_nilT, bothW_okN]
  · rw [putsM_con, putsM_con, putsM_con, show putsM text [] = .ok [] from rfl, bothW_nilT]
    unfold nmsW
    simp only [bothW_assoc]
theorem colRem_step {D : Nat} {g : Bool} {cs : List Col} {k : Nat} {x : Col} (h : cs[k]? = some x) : colRem D g cs k = bothW (putsM text (nmsL g k x)) (bothW (putW D x.type) (colRem D g cs (k + 1))) := by
  rw [nmsL_W]
  unfold colRem
  rw [if_neg (show ¬ k + 1 = 0 by omega)]
  cases k with
  | zero =>
    rw [if_pos rfl]
    cases cs with
    | nil => cases h
    | cons y l =>
      injection h with h
      subst h
      rw [putsM_con]
      show bothW (if g then nmsW y else .ok []) (bothW (bothW (if g then .ok [] else nmsW y) (bothW (text y.name) (putW D y.type))) (putsM (colW D g) l)) = _
      cases g <;> simp [bothW_okN, bothW_assoc]
  | succ k =>
    rw [if_neg (by omega), drop_con h, putsM_con]
    show bothW (bothW (if g then .ok [] else nmsW x) (bothW (text x.name) (putW D x.type))) (putsM (colW D g) (cs.drop (k + 1 + 1))) = _
    cases g <;> simp [bothW_okN, bothW_assoc]
theorem colRem_end {D : Nat} {g : Bool} {cs : List Col} : colRem D g cs cs.length = .ok [] := by
  unfold colRem
  split
  · have h0 : cs = [] := List.length_eq_zero_iff.1 (by assumption)
    subst h0
    rfl
  · rw [List.drop_length]; rfl
theorem text_sum (g : Bool) (k : Nat) (x : Col) : ((nmsL g k x).map fun s => s.length + 2).sum ≤ x.space.length + x.table.length + x.name.length + 6 := by
  unfold nmsL
  split <;> simp only [List.map_cons, List.map_nil, List.sum_cons, List.sum_nil] <;> omega
theorem enc4_f {f : Nat} (h : f < 8) : enc 4 f = [0, 0, 0, UInt8.ofNat f] := by
  have : f = 0 ∨ f = 1 ∨ f = 2 ∨ f = 3 ∨ f = 4 ∨ f = 5 ∨ f = 6 ∨ f = 7 := by omega
  rcases this with rfl | rfl | rfl | rfl | rfl | rfl | rfl | rfl <;> rfl
theorem putF_lt (t : Tb) (one : Bool) : putF t one < 8 := by unfold putF; cases oneT t one <;> cases t.more <;> cases decide ((t.cols.length : Int) < t.count) <;> decide
theorem putF_2 (t : Tb) (one : Bool) : ((putF t one : Int) % 2 == 1) = oneT t one := by unfold putF; cases oneT t one <;> cases t.more <;> cases decide ((t.cols.length : Int) < t.count) <;> rfl
theorem bothW_er (bs : B) (e : Int) (k : Wr) : bothW (.ok bs) (bothW (.error e) k) = .error e := rfl
theorem bothW_mv (bs cs : B) (k : Wr) : bothW (.ok bs) (bothW (.ok cs) k) = bothW (.ok (bs ++ cs)) k := by rw [bothW_assoc]; rfl
end Sb
namespace Go.Proofs.Sb
open Go.RowKit _root_.Sb
theorem run_cut2S (g : Nat) (kl : IntKind) (w : World) :
    (Instr.slice 59 (.slice (some ⟨g, 0, none⟩) 3 3) (some (.int kl 2)) none none).run Tryd.prog w = .ok (.slice (some ⟨g, 2, none⟩) 1 1) w := by
  have he : Tryd.prog.underlying 59 = some (.slice (Tryd.prog.elem 59)) := by simp [Program.elem, Tryd.underlying59]
  have hz : ∀ w, (sizeOf (Tryd.prog.elem 59)).run Tryd.prog w = .ok 1 w := by intro w; simp [Program.elem, Tryd.underlying59, Tryd.sizeOf9]
  rw [run_slice_l w 59 _ 3 3 he kl 2 (by omega) (by omega), hz]
  rfl
set_option maxHeartbeats 16000000 in
set_option maxRecDepth 100000 in
theorem rPut10_any {M dp : Nat} {S : Nat → Prop} {w : World} {t : Tb} {c q : Pl3} {one : Bool} (ht : RTbR M dp S w c q t) (hM : M ≤ 9223372036854775807) (hwt : wtT (dp + 1) t ≤ 140737488355328) (hnd : ∀ x ∈ t.cols, nD (dp + 1) x.type ≤ 1000000) :
    Calls Tryd.prog 18 #[.agg (rTV t c q).toArray, .bool one] w fun e w' => ∃ A n k, e = .returned (.tuple #[.slice A n k, .int .i64 (werr (putTb (dp + 1) t one))]) ∧ Own w.heap.size w' A n k (wval (putTb (dp + 1) t one)) ∧ Below w.heap.size w w' := by
  obtain ⟨cA, cn, cc⟩ := c
  obtain ⟨qA, qn, qc⟩ := q
  have HCL := Lib.hid ht.cl.len
  have HQL := Lib.hid ht.rw.len
  have hp1 := ht.cl.cap
  have hp2 := ht.cl.capMax
  have hp3 := ht.rw.cap
  have hp4 := ht.rw.capMax
  dsimp only at HCL HQL hp1 hp2 hp3 hp4
  have HS := Lib.hid (goesRTb.mono (S' := fun b => b < w.heap.size) ht fun b _ h => h); clear ht
  have HND := Lib.hid hnd; clear hnd
  have HWT : Hid (16 + t.state.bytes.length + (t.cols.map (colWt (dp + 1))).sum + (t.rows.map rowWt).sum ≤ 140737488355328) := Lib.hid hwt
  clear hwt
  have HFT := Lib.hid (fun h : fitsT t one = true => (by
    unfold fitsT at h
    simp only [Bool.and_eq_true] at h
    exact of_decide_eq_true h.1 : 0 ≤ t.count ∧ t.count ≤ 4096 ∧ t.rows.length ≤ 4096 ∧ (t.cols.length = 0 ∨ (t.cols.length : Int) = t.count)))
  obtain ⟨r, hr⟩ : ∃ r, r = putTb (dp + 1) t one := ⟨_, rfl⟩
  rw [← hr]
  have HR0 := Lib.hid hr; clear hr
  obtain ⟨V, hV⟩ : ∃ V, V = rTV t (cA, cn, cc) (qA, qn, qc) := ⟨_, rfl⟩
  have HMAY : Hid (∀ W, Below w.heap.size w W → Calls Tryd.prog 37 #[.agg V.toArray, .bool one] W fun e w' => e = .returned (.bool (fitsT t one)) ∧ Below W.heap.size W w') := Lib.hid (by
    intro W hW
    rw [hV]
    exact rmay10_any (goesRTb.after HS.out hW))
  rw [← hV]
  have HV := Lib.hid hV; clear hV
  obtain ⟨ft, hft⟩ : ∃ ft, fitsT t one = ft := ⟨_, rfl⟩
  have HF := Lib.hid hft; clear hft
  go_enter Tryd.func18, Tryd.ntmps18
  go_upto_region 1 with fail
  obtain ⟨w1, hw1⟩ : ∃ w1, w1 = w.alloc (.cells V.toArray 38) := ⟨_, rfl⟩
  rw [← hw1]
  have HB1 : Hid (Below w.heap.size w w1) := Lib.hid (by rw [hw1]; exact (Below.refl _ _).alloc (Nat.le_refl _) _)
  have HX1 : Hid (Bx (fun b => b = w.heap.size) w1 w.heap.size V) := Lib.hid (by
    rw [hw1]
    exact Bx.alloc w V.toArray 38 (S := fun b => b = w.heap.size) rfl rfl)
  clear hw1
  have hvl : (Tryd.prog.info? 38).map (·.size) = some V.length := by rw [HV.out]; kernel_rfl
  go_wp2_with (first | (refine wpList_loadB HX1.out (by rfl) 38 _ (by rfl) (by rfl) _ Tryd.underlying38 rfl hvl ?_))
  refine (HMAY.out _ HB1.out).mono ?_
  rintro e w2 ⟨rfl, hb2⟩
  rw [HF.out]
  have HX2 := Lib.hid (goesBx.after HX1.out hb2)
  have HB2 : Hid (Below w1.heap.size w1 w2) := Lib.hid hb2
  have hx12 : w.heap.size < w1.heap.size := HX1.out.lt
  have hz12 := hb2.size
  clear hb2 HMAY hvl HX1
  cases ft with
  | false =>
    have HE : Hid (r = .error 1) := Lib.hid (by rw [HR0.out]; unfold putTb; rw [if_pos HF.out])
    go_wp2_with fail
    go_ret2
    rw [HE.out]
    exact ⟨none, 0, 0, rfl, Own.nil, HB1.out.trans (HB2.out.mono HB1.out.size)⟩
  | true =>
    obtain ⟨hc0, hc1, hr1, hcc⟩ := HFT.out HF.out
    obtain ⟨m, hm⟩ : ∃ m : Nat, t.count = (m : Int) := ⟨t.count.toNat, by omega⟩
    have hm4 : m ≤ 4096 := by omega
    have hcn : cn ≤ 4096 := by have := HCL.out; omega
    have hqn : qn ≤ 4096 := by have := HQL.out; omega
    have hcm : cn = 0 ∨ cn = m := by have := HCL.out; omega
    obtain ⟨g, hg⟩ : ∃ g, g = oneT t one := ⟨_, rfl⟩
    obtain ⟨nc, hnc⟩ : ∃ n, n = decide (cn < m) := ⟨_, rfl⟩
    obtain ⟨f, hf⟩ : ∃ f, f = putF t one := ⟨_, rfl⟩
    obtain ⟨mo, hmo⟩ : ∃ mo, mo = t.more := ⟨_, rfl⟩
    have HFE : Hid (f = g.toNat + 2 * mo.toNat + 4 * nc.toNat) := Lib.hid (by
      rw [hf, hg, hmo, hnc]
      unfold putF
      rw [hm, ← HCL.out]
      congr 3
      rw [decide_eq_decide]
      omega)
    have HF8 : Hid (f < 8) := Lib.hid (by rw [hf]; exact putF_lt t one)
    have HF2 : Hid (((f : Int) % 2 == 1) = g) := Lib.hid (by rw [hf, hg]; exact putF_2 t one)
    have HR1 : Hid (r = bothW (.ok (enc 4 f)) (bothW (.ok (enc 4 m)) (bothW (if mo then value t.state else .ok []) (bothW (colRem (dp + 1) g t.cols 0) (bothW (.ok (enc 4 qn)) (putsM (putsM value) t.rows)))))) := Lib.hid (by
      rw [HR0.out]
      unfold putTb
      rw [if_neg (by rw [HF.out]; decide)]
      unfold putT
      rw [← hf, ← hg, ← hmo, hm, ← HQL.out, Int.toNat_natCast]
      unfold colRem
      rw [if_pos rfl]
      simp only [bothW_assoc])
    have HG : Hid (g = (one && decide (0 < cn))) := Lib.hid (by rw [hg, HCL.out]; rfl)
    have HNC := Lib.hid hnc
    have HM := Lib.hid hm
    have HMO := Lib.hid hmo
    clear HR0 HFT HF hc0 hc1 hr1 hcc hg hnc hf hmo hm
    have k0 := HX2.out.c 0 _ (show V[0]? = some (.int .i64 (m : Int)) by rw [HV.out, ← HM.out]; rfl)
    have k1 := HX2.out.c 1 _ (show V[1]? = some (.slice cA cn cc) by rw [HV.out]; rfl)
    have k2 := HX2.out.c 2 _ (show V[2]? = some (.bool mo) by rw [HV.out, HMO.out]; rfl)
    have xl2 := HX2.out.lt
    go_upto_region 5 with fail
    go_cut [33] (fun v wx => v = .bool g ∧ wx = w2)
    case first => as_aux_lemma =>
      cases one with
      | false =>
        go_wp2_with fail
        go_meet
        exact ⟨by rw [HG.out]; rfl, rfl⟩
      | true =>
        have HGK : Hid (g = decide (0 < cn)) := Lib.hid (by rw [HG.out]; rfl)
        go_wp2_with fail
        go_meet
        exact ⟨by rw [HGK.out], rfl⟩
    case rest => as_aux_lemma =>
    obtain ⟨rfl, rfl⟩ := hcut
    obtain ⟨w2, hwo⟩ : ∃ wo, wo = wc := ⟨_, rfl⟩
    subst hwo
    go_upto_if 33 with fail
    go_cut [7] (fun v wx => v = .int .u8 ((g.toNat : Nat) : Int) ∧ wx = w2)
    case first => as_aux_lemma =>
      cases g with
      | false =>
        go_wp2_with fail
        go_meet
        exact ⟨rfl, rfl⟩
      | true =>
        go_wp2_with fail
        go_meet
        exact ⟨rfl, rfl⟩
    case rest => as_aux_lemma =>
    obtain ⟨rfl, rfl⟩ := hcut
    obtain ⟨w2, hwo⟩ : ∃ wo, wo = wc := ⟨_, rfl⟩
    subst hwo
    go_upto_if 37 with fail
    go_cut [7] (fun v wx => v = .int .u8 ((g.toNat + 2 * mo.toNat : Nat) : Int) ∧ wx = w2)
    case first => as_aux_lemma =>
      cases mo with
      | false =>
        go_wp2_with fail
        go_meet
        exact ⟨rfl, rfl⟩
      | true =>
        cases g with
        | false =>
          go_wp2_with fail
          go_meet
          exact ⟨rfl, rfl⟩
        | true =>
          go_wp2_with fail
          go_meet
          exact ⟨rfl, rfl⟩
    case rest => as_aux_lemma =>
    obtain ⟨rfl, rfl⟩ := hcut
    obtain ⟨w2, hwo⟩ : ∃ wo, wo = wc := ⟨_, rfl⟩
    subst hwo
    go_upto_region 9 with fail
    go_cut [48] (fun v wx => v = .bool nc ∧ wx = w2)
    case first => as_aux_lemma =>
      by_cases h0 : cn = 0
      · subst h0
        have HNK : Hid (nc = decide (0 < m)) := Lib.hid HNC.out
        go_wp2_with fail
        go_meet
        exact ⟨by rw [HNK.out], rfl⟩
      · have HNK : Hid (nc = false) := Lib.hid (by rw [HNC.out]; exact decide_eq_false (by omega))
        have h0' : ((cn : Int) == 0) = false := by simp [h0]
        go_wp2_with fail
        go_meet
        exact ⟨by rw [HNK.out], rfl⟩
    case rest => as_aux_lemma =>
    obtain ⟨rfl, rfl⟩ := hcut
    obtain ⟨w2, hwo⟩ : ∃ wo, wo = wc := ⟨_, rfl⟩
    subst hwo
    go_upto_if 48 with fail
    go_cut [7] (fun v wx => v = .int .u8 (f : Int) ∧ wx = w2)
    case first => as_aux_lemma =>
      cases nc <;> cases mo <;> cases g
      all_goals
        obtain rfl := HFE.out
        go_wp2_with fail
        go_meet
        exact ⟨rfl, rfl⟩
    case rest => as_aux_lemma =>
    obtain ⟨rfl, rfl⟩ := hcut
    obtain ⟨w2, hwo⟩ : ∃ wo, wo = wc := ⟨_, rfl⟩
    subst hwo
    clear HFE HNC HG
    go_upto_region 12 with fail
    obtain ⟨w3, hw3⟩ : ∃ w3, w3 = w2.alloc (.cells #[.int .u8 0, .int .u8 0, .int .u8 0, .int .u8 (f : Int)] 5) := ⟨_, rfl⟩
    rw [← hw3]
    have HO3 : Hid (Own w2.heap.size w3 (some ⟨w2.heap.size, 0, none⟩) 4 4 (enc 4 f)) := Lib.hid (by
      rw [hw3]
      refine own_lit w2 _ 4 _ ?_ (by rw [enc_length]) (by decide) (Nat.le_refl _) rfl
      rw [enc4_f HF8.out]
      have := HF8.out
      simp [bv, UInt8.toNat_ofNat']
      omega)
    have HB3 : Hid (Below w2.heap.size w2 w3) := Lib.hid (by rw [hw3]; exact (Below.refl _ _).alloc (Nat.le_refl _) _)
    clear hw3
    have HX3 := Lib.hid (goesBx.after HX2.out HB3.out)
    clear k0 k1 k2
    have k0 := HX3.out.c 0 _ (show V[0]? = some (.int .i64 (m : Int)) by rw [HV.out, ← HM.out]; rfl)
    have hwm : IntKind.u64.wrap (m : Int) = (m : Int) := wrap_u64 (by omega)
    have hz3 := HB3.out.size
    go_upto_region 13 with (first | (go_at_call 38; refine (rput_any (m : Int) 4 _ (by decide) (by decide) (by omega) (by omega)).mono ?_; rintro e w4 ⟨A4, m4, d4, rfl, ho4, hb4⟩; rw [Int.toNat_natCast] at ho4; have HO4 := Lib.hid ho4; have HO3b := Lib.hid (HO3.out.after hb4); have HB4 := Lib.hid (HB3.out.trans (hb4.mono hz3)); clear ho4 hb4) | (at_builtin; go_loud (refine wpList_appw rfl _ _ rfl w2.heap.size _ _ _ (enc 4 f) rfl HO3b.out _ _ _ _ (enc 4 m) rfl HO4.out.sl (by rw [enc_length, enc_length]; omega) HB4.out.size ?_); intro A5 m5 d5 w5 hown5 hg5 hw5; have HO5 := Lib.hid hown5; have HB5 := Lib.hid (below_grow HB4.out hg5 HB4.out.size (fun b e => (HO3b.out.block b e).1)); clear hown5 hg5 hw5))
    have HR5 : Hid (r = bothW (.ok (enc 4 f ++ enc 4 m)) (bothW (if mo then value t.state else .ok []) (bothW (colRem (dp + 1) g t.cols 0) (bothW (.ok (enc 4 qn)) (putsM (putsM value) t.rows))))) := Lib.hid (by rw [HR1.out, bothW_mv])
    have HX5 := Lib.hid (goesBx.after HX2.out HB5.out)
    clear k0 HO3 HO3b HO4 HB3 HB4 HX3 HR1 hz3 hwm
    have k2 := HX5.out.c 2 _ (show V[2]? = some (.bool mo) by rw [HV.out, HMO.out]; rfl)
    have xl5 := HX5.out.lt
    obtain ⟨b5, hb5⟩ : ∃ b, b = enc 4 f ++ enc 4 m := ⟨_, rfl⟩
    have HL5 : Hid (b5.length = 8) := Lib.hid (by rw [hb5, List.length_append, enc_length, enc_length])
    rw [← hb5] at HO5 HR5
    clear hb5
    go_upto_if 60 with fail
    go_cut [8] (fun v wx => ∃ A n c bs, v = .slice A n c ∧ Hid (Own w2.heap.size wx A n c bs) ∧ Hid (Below w2.heap.size w2 wx) ∧ Hid (r = bothW (.ok bs) (bothW (colRem (dp + 1) g t.cols 0) (bothW (.ok (enc 4 qn)) (putsM (putsM value) t.rows)))) ∧ Hid (bs.length ≤ 12 + t.state.bytes.length))
    case first => as_aux_lemma =>
      cases mo with
      | false =>
        have HR5f : Hid (r = bothW (.ok b5) (bothW (colRem (dp + 1) g t.cols 0) (bothW (.ok (enc 4 qn)) (putsM (putsM value) t.rows)))) := Lib.hid (by rw [HR5.out, if_neg (by decide), bothW_okN])
        go_wp2_with fail
        go_meet
        exact ⟨A5, m5, d5, b5, rfl, HO5, HB5, HR5f, Lib.hid (by have := HL5.out; omega)⟩
      | true =>
        have HR5t : Hid (r = bothW (.ok b5) (bothW (value t.state) (bothW (colRem (dp + 1) g t.cols 0) (bothW (.ok (enc 4 qn)) (putsM (putsM value) t.rows))))) := Lib.hid (by rw [HR5.out, if_pos rfl])
        clear HR5
        have k3 := HX5.out.c 3 _ (show V[3]? = some (.int .i64 t.state.kind) by rw [HV.out]; rfl)
        have k4 := HX5.out.c 4 _ (show V[4]? = some (.string (str t.state.bytes)) by rw [HV.out]; rfl)
        obtain ⟨rv, hrv⟩ : ∃ z, value t.state = z := ⟨_, rfl⟩
        have HRV := Lib.hid hrv; clear hrv
        go_wp2_with fail
        refine (rvalue_any t.state _ (by have := HWT.out; omega) rv HRV.out).mono ?_
        rintro e w6 ⟨A6, m6, d6, rfl, ho6, hb6⟩
        have HO6 := Lib.hid ho6
        have HO5b := Lib.hid (HO5.out.after hb6)
        have HB6 := Lib.hid (HB5.out.trans (hb6.mono HB5.out.size))
        clear ho6 hb6 HO5 HB5 k2 k3 k4
        cases rv with
        | error e =>
          have hne : (e != 0) = true := by simpa using value_ne HRV.out
          have HE : Hid (r = .error e) := Lib.hid (by rw [HR5t.out, HRV.out]; rfl)
          simp only [werr_error]
          go_wp2_with fail
          go_ret2
          rw [HE.out]
          exact ⟨none, 0, 0, rfl, Own.nil, HB1.out.trans (HB2.out.trans (HB6.out.mono HB2.out.size) |>.mono HB1.out.size)⟩
        | ok vb =>
          have HVL : Hid (vb.length ≤ t.state.bytes.length + 4) := Lib.hid (by have h := value_le t.state; rw [HRV.out] at h; exact h)
          simp only [werr_ok, wval_ok] at HO6 ⊢
          go_wp2_with (first | (at_builtin; go_loud (refine wpList_appw rfl _ _ rfl w2.heap.size _ _ _ b5 rfl HO5b.out _ _ _ _ vb rfl HO6.out.sl (by have := HL5.out; have := HVL.out; have := HWT.out; omega) HB6.out.size ?_); intro A7 m7 d7 w7 hown7 hg7 hw7; have HO7 := Lib.hid hown7; have HB7 := Lib.hid (below_grow HB6.out hg7 HB6.out.size (fun b e => (HO5b.out.block b e).1)); clear hown7 hg7 hw7))
          go_meet
          exact ⟨A7, m7, d7, b5 ++ vb, rfl, HO7, HB7, Lib.hid (by rw [HR5t.out, HRV.out, bothW_mv]), Lib.hid (by rw [List.length_append]; have := HL5.out; have := HVL.out; omega)⟩
    case rest => as_aux_lemma =>
    obtain ⟨A7, m7, d7, b7, rfl, HO7, HB7, HR7, HL7⟩ := hcut
    obtain ⟨w7, hwo⟩ : ∃ wo, wo = wc := ⟨_, rfl⟩
    subst hwo
    clear HO5 HB5 HR5 HX5 HL5 k2 xl5
    obtain ⟨X, hX⟩ : ∃ X, X = bothW (.ok (enc 4 qn)) (putsM (putsM value) t.rows) := ⟨_, rfl⟩
    rw [← hX] at HR7
    have HXE := Lib.hid hX; clear hX
    obtain ⟨RW, hRW⟩ : ∃ RW, RW = (t.rows.map rowWt).sum := ⟨_, rfl⟩
    have HRW := Lib.hid hRW
    have HLT7 : Hid (b7.length + ((t.cols.drop 0).map (colWt (dp + 1))).sum + 4 + RW ≤ 140737488355328) := Lib.hid (by rw [hRW, List.drop_zero]; have := HL7.out; have := HWT.out; omega)
    clear hRW HL7 HWT
    go_upto_block 0 with fail
    go_cut [8, 11] (fun v _ wx => ∃ A n c bs, v = .slice A n c ∧ Hid (Own w2.heap.size wx A n c bs) ∧ Hid (Below w2.heap.size w2 wx) ∧ Hid (r = bothW (.ok bs) X) ∧ Hid (bs.length + 4 + RW ≤ 140737488355328))
    case first => as_aux_lemma =>
      go_wp2_with fail
      go_loopw [8, 11] (fun v i wr => ∃ k A n c bs, k ≤ cn ∧ v = .slice A n c ∧ i = .int .i64 ((k : Nat) : Int) ∧ Hid (Own w2.heap.size wr A n c bs) ∧ Hid (Below w2.heap.size w2 wr) ∧ Hid (r = bothW (.ok bs) (bothW (colRem (dp + 1) g t.cols k) X)) ∧ Hid (bs.length + ((t.cols.drop k).map (colWt (dp + 1))).sum + 4 + RW ≤ 140737488355328)) (fun _ i _ => cn - (intOf i).toNat)
      case atStart => exact ⟨0, A7, m7, d7, b7, by omega, rfl, rfl, HO7, HB7, HR7, HLT7⟩
      case round => as_aux_lemma =>
        clear HO7 HB7 HR7 HLT7
        obtain ⟨k, A, n, c, bs, hk, rfl, rfl, HO, HB, HR, HL⟩ := hrel
        have HXr := Lib.hid (goesBx.after HX2.out HB.out)
        have k1 := HXr.out.c 1 _ (show V[1]? = some (.slice cA cn cc) by rw [HV.out]; rfl)
        have xlr := HXr.out.lt
        have hzr := HB.out.size
        by_cases hlt : k < cn
        · obtain ⟨x, hx⟩ : ∃ x, t.cols[k]? = some x := ⟨_, List.getElem?_eq_getElem (by have := HCL.out; omega)⟩
          have HBW := Lib.hid (HB1.out.trans (HB2.out.trans (HB.out.mono HB2.out.size) |>.mono HB1.out.size))
          obtain ⟨b, o, hbo, hSb, hbs, HC⟩ := HS.out.cl.at (by decide) (by show 0 < cn; omega)
          dsimp only at hbo
          subst hbo
          obtain ⟨v, _, hp, hv2⟩ := HC k x hx
          obtain ⟨A1, n1, c1, A2, n2, c2, rfl, hl1, hl2, hl3, hop⟩ := hp
          have HOP := Lib.hid hop
          have HCE : Hid (∀ W, Below w.heap.size w W → ∀ j y, [Value.string (str x.space), .string (str x.table), .string (str x.name), .int .u16 (x.type.id : Int), .string (str x.type.space), .string (str x.type.name), .slice A1 n1 c1, .slice A2 n2 c2][j]? = some y → W.cell? ⟨b, o + k * 8 + j, none⟩ = some y) := Lib.hid fun W hW j y h => kcell hW (hv2 j y h)
          have a0 := HCE.out _ HBW.out 0 _ rfl
          have a1 := HCE.out _ HBW.out 1 _ rfl
          have a2 := HCE.out _ HBW.out 2 _ rfl
          simp only [Nat.add_zero] at a0
          have HX := Lib.hid hx
          have HWS : Hid (((t.cols.drop k).map (colWt (dp + 1))).sum = (x.space.length + x.table.length + x.name.length + 6 + 200000 * nD (dp + 1) x.type) + ((t.cols.drop (k + 1)).map (colWt (dp + 1))).sum) := Lib.hid (by rw [drop_con hx, List.map_cons, List.sum_cons]; rfl)
          have HNX := Lib.hid (HND.out x (List.mem_of_getElem? hx))
          have HRS := Lib.hid (colRem_step (D := dp + 1) (g := g) hx)
          have HSM := Lib.hid (show x.space.length ≤ 9223372036854775807 ∧ x.table.length ≤ 9223372036854775807 ∧ x.name.length ≤ 9223372036854775807 from ⟨by omega, by omega, by omega⟩)
          clear HC hv2 hop hx hl1 hl2 hl3
          go_upto_region 21 with fail
          have hdr : Below wr.heap.size wr wr.drew := (Below.refl _ _).drew
          have e1 := Aft.each (kcell hdr k1)
          have f0 := Aft.each (kcell hdr a0)
          have f1 := Aft.each (kcell hdr a1)
          have f2 := Aft.each (kcell hdr a2)
          have hkc : (k : Int) < (cn : Int) := by omega
          clear hdr
          refine reg_start (by kernel_rfl) ?_
          (refine reg_take 0 (v := ?_) (by rfl) (by kernel_rfl) (by kernel_rfl) (by kernel_rfl) (by exact fun _ _ _ h => h) (by rfl) ?_ ?_; rotate_left; focus (intro w hSw; go_simp; try with_reducible rfl))
          simp only [Act.put, List.setIfInBounds_toArray, List.set_cons_zero, List.set_cons_succ]
          (refine reg_take 1 (v := ?_) (by rfl) (by kernel_rfl) (by kernel_rfl) (by kernel_rfl) (by exact fun _ _ _ h => h) (by rfl) ?_ ?_; rotate_left; focus (intro w hSw; go_simp; try with_reducible rfl))
          simp only [Act.put, List.setIfInBounds_toArray, List.set_cons_zero, List.set_cons_succ]
          (refine reg_take 2 (v := ?_) (by rfl) (by kernel_rfl) (by kernel_rfl) (by kernel_rfl) (by exact fun _ _ _ h => h) (by rfl) ?_ ?_; rotate_left; focus (intro w hSw; go_simp; try with_reducible rfl))
          simp only [Act.put, List.setIfInBounds_toArray, List.set_cons_zero, List.set_cons_succ]
          (refine reg_take 3 (v := ?_) (by rfl) (by kernel_rfl) (by kernel_rfl) (by kernel_rfl) (by exact fun _ _ _ h => h) (by rfl) ?_ ?_; rotate_left; focus (intro w hSw; go_simp; try with_reducible rfl))
          simp only [Act.put, List.setIfInBounds_toArray, List.set_cons_zero, List.set_cons_succ]
          (refine reg_take 4 (v := ?_) (by rfl) (by kernel_rfl) (by kernel_rfl) (by kernel_rfl) (by exact fun _ _ _ h => h) (by rfl) ?_ ?_; rotate_left; focus (intro w hSw; go_simp; try with_reducible rfl))
          simp only [Act.put, List.setIfInBounds_toArray, List.set_cons_zero, List.set_cons_succ]
          (refine reg_take 5 (v := ?_) (by rfl) (by kernel_rfl) (by kernel_rfl) (by kernel_rfl) (by exact fun _ _ _ h => h) (by rfl) ?_ ?_; rotate_left; focus (intro w hSw; go_simp; try with_reducible rfl))
          simp only [Act.put, List.setIfInBounds_toArray, List.set_cons_zero, List.set_cons_succ]
          (refine reg_take 6 (v := ?_) (by rfl) (by kernel_rfl) (by kernel_rfl) (by kernel_rfl) (by exact fun _ _ _ h => h) (by rfl) ?_ ?_; rotate_left; focus (intro w hSw; go_simp; try with_reducible rfl))
          simp only [Act.put, List.setIfInBounds_toArray, List.set_cons_zero, List.set_cons_succ]
          (refine reg_take 7 (v := ?_) (by rfl) (by kernel_rfl) (by kernel_rfl) (by kernel_rfl) (by exact fun _ _ _ h => h) (by rfl) ?_ ?_; rotate_left; focus (intro w hSw; go_simp; try with_reducible rfl))
          simp only [Act.put, List.setIfInBounds_toArray, List.set_cons_zero, List.set_cons_succ]
          (refine reg_take 8 (v := ?_) (by rfl) (by kernel_rfl) (by kernel_rfl) (by kernel_rfl) (by exact fun _ _ _ h => h) (by rfl) ?_ ?_; rotate_left; focus (intro w hSw; go_simp; try with_reducible rfl))
          simp only [Act.put, List.setIfInBounds_toArray, List.set_cons_zero, List.set_cons_succ]
          (refine reg_take 9 (v := ?_) (by rfl) (by kernel_rfl) (by kernel_rfl) (by kernel_rfl) (by exact fun _ _ _ h => h) (by rfl) ?_ ?_; rotate_left; focus (intro w hSw; go_simp; try with_reducible rfl))
          simp only [Act.put, List.setIfInBounds_toArray, List.set_cons_zero, List.set_cons_succ]
          (refine reg_take 10 (v := ?_) (by rfl) (by kernel_rfl) (by kernel_rfl) (by kernel_rfl) (by exact fun _ _ _ h => h) (by rfl) ?_ ?_; rotate_left; focus (intro w hSw; go_simp; try with_reducible rfl))
          simp only [Act.put, List.setIfInBounds_toArray, List.set_cons_zero, List.set_cons_succ]
          (refine reg_take 11 (v := ?_) (by rfl) (by kernel_rfl) (by kernel_rfl) (by kernel_rfl) (by exact fun _ _ _ h => h) (by rfl) ?_ ?_; rotate_left; focus (intro w hSw; go_simp; try with_reducible rfl))
          simp only [Act.put, List.setIfInBounds_toArray, List.set_cons_zero, List.set_cons_succ]
          (refine reg_take 12 (v := ?_) (by rfl) (by kernel_rfl) (by kernel_rfl) (by kernel_rfl) (by exact fun _ _ _ h => h) (by rfl) ?_ ?_; rotate_left; focus (intro w hSw; go_simp; try with_reducible rfl))
          simp only [Act.put, List.setIfInBounds_toArray, List.set_cons_zero, List.set_cons_succ]
          (refine reg_take 13 (v := ?_) (by rfl) (by kernel_rfl) (by kernel_rfl) (by kernel_rfl) (by exact fun _ _ _ h => h) (by rfl) ?_ ?_; rotate_left; focus (intro w hSw; go_simp; try with_reducible rfl))
          simp only [Act.put, List.setIfInBounds_toArray, List.set_cons_zero, List.set_cons_succ]
          (refine reg_take 14 (v := ?_) (by rfl) (by kernel_rfl) (by kernel_rfl) (by kernel_rfl) (by exact fun _ _ _ h => h) (by rfl) ?_ ?_; rotate_left; focus (intro w hSw; go_simp; try with_reducible rfl))
          simp only [Act.put, List.setIfInBounds_toArray, List.set_cons_zero, List.set_cons_succ]
          (refine reg_take 15 (v := ?_) (by rfl) (by kernel_rfl) (by kernel_rfl) (by kernel_rfl) (by exact fun _ _ _ h => h) (by rfl) ?_ ?_; rotate_left; focus (intro w hSw; go_simp; try with_reducible rfl))
          simp only [Act.put, List.setIfInBounds_toArray, List.set_cons_zero, List.set_cons_succ]
          (refine reg_take 16 (v := ?_) (by rfl) (by kernel_rfl) (by kernel_rfl) (by kernel_rfl) (by exact fun _ _ _ h => h) (by rfl) ?_ ?_; rotate_left; focus (intro w hSw; go_simp; try with_reducible rfl))
          simp only [Act.put, List.setIfInBounds_toArray, List.set_cons_zero, List.set_cons_succ]
          (refine reg_take 17 (v := ?_) (by rfl) (by kernel_rfl) (by kernel_rfl) (by kernel_rfl) (by exact fun _ _ _ h => h) (by rfl) ?_ ?_; rotate_left; focus (intro w hSw; go_simp; try with_reducible rfl))
          simp only [Act.put, List.setIfInBounds_toArray, List.set_cons_zero, List.set_cons_succ]
          refine reg_call 18 (by kernel_rfl) (by rfl) (fun K hK => ?_)
          go_simp
          refine hK.out _ _ ((by unfold Aft; exact (by repeat (first | exact Below.refl _ _ | exact below_undrew (Below.refl _ _) | assumption | refine Below.drew ?_ | refine below_drewN ?_ _ | refine Below.alloc ?_ (by simp) _ | refine Below.setCell ?_ (by simp) _)))) ?_
          clear hK K
          try simp only [Act.put, List.setIfInBounds_toArray, List.set_cons_zero, List.set_cons_succ]
          (refine reg_take 19 (v := ?_) (by rfl) (by kernel_rfl) (by kernel_rfl) (by kernel_rfl) (by exact fun _ _ _ h => h) (by rfl) ?_ ?_; rotate_left; focus (intro w hSw; go_simp; try with_reducible rfl))
          simp only [Act.put, List.setIfInBounds_toArray, List.set_cons_zero, List.set_cons_succ]
          refine wpAnyH_done (by kernel_rfl) ?_ _
          clear e1 f0 f1 f2 k1 a0 a1 a2
          obtain ⟨wq, hwq⟩ : ∃ wq, wq = (wr.alloc (.cells #[.string (str x.space), .string (str x.table), .string (str x.name)] 9)).drew := ⟨_, rfl⟩
          have hbq : Below wr.heap.size wr wq := by rw [hwq]; exact (by repeat (first | exact Below.refl _ _ | assumption | refine Below.drew ?_ | refine below_drewN ?_ _ | refine Below.alloc ?_ (by first | (simp; done) | omega | (simp; omega)) _ | refine Below.setCell ?_ (by first | (simp; done) | omega | (simp; omega)) _))
          have HCQ : Hid (∀ j y, [Value.string (str x.space), .string (str x.table), .string (str x.name)][j]? = some y → wq.cell? ⟨wr.heap.size, j, none⟩ = some y) := Lib.hid (by
            intro j y h
            rw [hwq]
            have hb := Bx.alloc wr #[.string (str x.space), .string (str x.table), .string (str x.name)] 9 (S := fun b => b = wr.heap.size) rfl (X := wr.heap.size) rfl
            exact (hb.after (w' := (wr.alloc (.cells #[.string (str x.space), .string (str x.table), .string (str x.name)] 9)).drew) ((Below.refl _ _).drew)).c j y h)
          have hlq : wr.heap.size < wq.heap.size := by rw [hwq]; simp
          have HAG : Hid (∀ b', A.map (·.block) = some b' → b' ≠ wr.heap.size) := Lib.hid fun b' e => by have := (HO.out.block b' e).2; omega
          try simp only [World.size_drew]
          rw [← hwq]
          have HOq := Lib.hid (HO.out.after hbq)
          have HBq := Lib.hid (HB.out.trans (hbq.mono hzr))
          clear hwq hbq HO HB HXr xlr
          obtain ⟨G, hG⟩ : ∃ G, G = wr.heap.size := ⟨_, rfl⟩
          rw [← hG] at HCQ hlq HAG ⊢
          clear hG
          have hm2 := HF2.out
          obtain ⟨nb, hnb⟩ : ∃ nb, nb = (g && decide (0 < k)) := ⟨_, rfl⟩
          have HNB := Lib.hid hnb; clear hnb
          go_upto_region 22 with fail
          go_cut [105] (fun v wx => v = .bool nb ∧ wx = wq)
          case first => as_aux_lemma =>
            cases g with
            | false =>
              go_wp2_with fail
              go_meet
              exact ⟨by rw [HNB.out]; rfl, rfl⟩
            | true =>
              have HNK : Hid (nb = decide (0 < k)) := Lib.hid (by rw [HNB.out]; rfl)
              go_wp2_with fail
              go_meet
              exact ⟨by rw [HNK.out], rfl⟩
          case rest => as_aux_lemma =>
          obtain ⟨rfl, rfl⟩ := hcut
          obtain ⟨wq, hwo⟩ : ∃ wo, wo = wc := ⟨_, rfl⟩
          subst hwo
          clear hm2
          go_upto_if 105 with fail
          go_cut [12] (fun v wx => ∃ off L ln, v = .slice (some ⟨G, off, none⟩) ln ln ∧ wx = wq ∧ Hid (L = nmsL g k x) ∧ Hid (ln = L.length) ∧ Hid (ln ≤ 3) ∧ Hid (∀ j y, L[j]? = some y → wq.cell? ⟨G, off + j, none⟩ = some (.string (str y)) ∧ y.length ≤ 9223372036854775807))
          case first => as_aux_lemma =>
            have HNM : Hid (nmsL g k x = if nb = true then [x.name] else [x.space, x.table, x.name]) := Lib.hid (by rw [HNB.out]; rfl)
            cases nb with
            | false =>
              have HNL : Hid ([x.space, x.table, x.name] = nmsL g k x) := Lib.hid (by rw [HNM.out, if_neg (by decide)])
              go_wp2_with fail
              go_meet
              refine ⟨0, [x.space, x.table, x.name], 3, rfl, rfl, HNL, rfl, Nat.le_refl _, Lib.hid fun j y h => ?_⟩
              match j, h with
              | 0, h => injection h with h; subst h; exact ⟨by simpa using HCQ.out 0 _ rfl, HSM.out.1⟩
              | 1, h => injection h with h; subst h; exact ⟨by simpa using HCQ.out 1 _ rfl, HSM.out.2.1⟩
              | 2, h => injection h with h; subst h; exact ⟨by simpa using HCQ.out 2 _ rfl, HSM.out.2.2⟩
            | true =>
              have HNL : Hid ([x.name] = nmsL g k x) := Lib.hid (by rw [HNM.out, if_pos rfl])
              have hcut2 := fun kl => run_cut2S G kl wq
              go_wp2_with fail
              go_meet
              refine ⟨2, [x.name], 1, rfl, rfl, HNL, rfl, Lib.hid (by decide), Lib.hid fun j y h => ?_⟩
              match j, h with
              | 0, h => injection h with h; subst h; exact ⟨HCQ.out 2 _ rfl, HSM.out.2.2⟩
          case rest => as_aux_lemma =>
          obtain ⟨off, L, ln, rfl, rfl, HLE, HLN, HL3, HLC⟩ := hcut
          obtain ⟨wq, hwo⟩ : ∃ wo, wo = wc := ⟨_, rfl⟩
          subst hwo
          clear HCQ HSM
          have hl3 := HL3.out
          obtain ⟨Z, hZ⟩ : ∃ Z, Z = bothW (putW (dp + 1) x.type) (bothW (colRem (dp + 1) g t.cols (k + 1)) X) := ⟨_, rfl⟩
          have HRq : Hid (r = bothW (.ok bs) (bothW (putsM text (L.drop 0)) Z)) := Lib.hid (by rw [HR.out, HRS.out, hZ, HLE.out, List.drop_zero]; simp only [bothW_assoc])
          obtain ⟨ZW, hZW⟩ : ∃ n, n = 200000 * nD (dp + 1) x.type + ((t.cols.drop (k + 1)).map (colWt (dp + 1))).sum + 4 + RW := ⟨_, rfl⟩
          have HLq : Hid (bs.length + ((L.drop 0).map fun s => s.length + 2).sum + ZW ≤ 140737488355328) := Lib.hid (by rw [List.drop_zero, hZW, HLE.out]; have h1 := text_sum g k x; have h2 := HL.out; rw [HWS.out] at h2; omega)
          have HZE := Lib.hid hZ
          have HZW := Lib.hid hZW
          clear hZ hZW HR HL HRS HWS
          go_upto_block 2 with fail
          go_cut [8, 13] (fun v _ wx => ∃ A n c bs, v = .slice A n c ∧ Hid (Own w2.heap.size wx A n c bs) ∧ Hid (Below w2.heap.size w2 wx) ∧ Hid (r = bothW (.ok bs) Z) ∧ Hid (bs.length + ZW ≤ 140737488355328))
          case first => as_aux_lemma =>
            go_wp2_with fail
            go_loopw [8, 13] (fun v i wr => ∃ j A n c bs, j ≤ ln ∧ v = .slice A n c ∧ i = .int .i64 ((j : Nat) : Int) ∧ Hid (Own w2.heap.size wr A n c bs) ∧ Hid (Below w2.heap.size w2 wr) ∧ Hid (∀ b', A.map (·.block) = some b' → b' ≠ G) ∧ Hid (G < wr.heap.size ∧ ∀ j y, L[j]? = some y → wr.cell? ⟨G, off + j, none⟩ = some (.string (str y)) ∧ y.length ≤ 9223372036854775807) ∧ Hid (r = bothW (.ok bs) (bothW (putsM text (L.drop j)) Z)) ∧ Hid (bs.length + ((L.drop j).map fun s => s.length + 2).sum + ZW ≤ 140737488355328)) (fun _ i _ => ln - (intOf i).toNat)
            case atStart => exact ⟨0, A, n, c, bs, by omega, rfl, rfl, HOq, HBq, HAG, Lib.hid ⟨hlq, HLC.out⟩, HRq, HLq⟩
            case round => as_aux_lemma =>
              clear HOq HBq HAG HRq HLq HLC hlq
              obtain ⟨j, A, n, c, bs, hj, rfl, rfl, HO, HB, HAG, HLC, HR, HL⟩ := hrel
              by_cases hlt2 : j < ln
              · obtain ⟨y, hy⟩ : ∃ y, L[j]? = some y := ⟨_, List.getElem?_eq_getElem (by have := HLN.out; omega)⟩
                have hy0 := (HLC.out.2 j y hy).1
                have HYL := Lib.hid (HLC.out.2 j y hy).2
                have HDR := Lib.hid (drop_con hy)
                obtain ⟨rv, hrv⟩ : ∃ z, text y = z := ⟨_, rfl⟩
                have HRV := Lib.hid hrv; clear hrv hy
                go_wp2_with fail
                refine (rtext_any y _ HYL.out rv HRV.out).mono ?_
                rintro e w6 ⟨A6, m6, d6, rfl, ho6, hb6⟩
                have HO6 := Lib.hid ho6
                have HOb := Lib.hid (HO.out.after hb6)
                have HB6 := Lib.hid (HB.out.trans (hb6.mono HB.out.size))
                have HLC6 : Hid (G < w6.heap.size ∧ ∀ j y, L[j]? = some y → w6.cell? ⟨G, off + j, none⟩ = some (.string (str y)) ∧ y.length ≤ 9223372036854775807) := Lib.hid ⟨Nat.lt_of_lt_of_le HLC.out.1 hb6.size, fun j y h => ⟨kcell hb6 (HLC.out.2 j y h).1, (HLC.out.2 j y h).2⟩⟩
                clear ho6 hb6 HO HB HLC hy0
                cases rv with
                | error e =>
                  have hne : (e != 0) = true := by simpa using text_ne HRV.out
                  have HE : Hid (r = .error e) := Lib.hid (by rw [HR.out, HDR.out, putsM_con, HRV.out]; rfl)
                  simp only [werr_error]
                  go_wp2_with fail
                  go_ret2
                  rw [HE.out]
                  exact ⟨none, 0, 0, rfl, Own.nil, HB1.out.trans (HB2.out.trans (HB6.out.mono HB2.out.size) |>.mono HB1.out.size)⟩
                | ok vb =>
                  have HVL : Hid (vb.length ≤ y.length + 2) := Lib.hid (by have h := text_le y; rw [HRV.out] at h; exact h)
                  have HR6 : Hid (r = bothW (.ok (bs ++ vb)) (bothW (putsM text (L.drop (j + 1))) Z)) := Lib.hid (by rw [HR.out, HDR.out, putsM_con, HRV.out, ← bothW_assoc, bothW_mv])
                  have HL6 : Hid (bs.length + (y.length + 2) + ((L.drop (j + 1)).map fun s => s.length + 2).sum + ZW ≤ 140737488355328) := Lib.hid (by have h := HL.out; rw [HDR.out, List.map_cons, List.sum_cons] at h; omega)
                  simp only [werr_ok, wval_ok] at HO6 ⊢
                  clear HR HL HDR
                  go_wp2_with (first | (at_builtin; go_loud (refine wpList_appw rfl _ _ rfl w2.heap.size _ _ _ bs rfl HOb.out _ _ _ _ vb rfl HO6.out.sl (by have := HL6.out; have := HVL.out; omega) HB6.out.size ?_); intro A7 m7 d7 w7 hown7 hg7 hw7; have HO7 := Lib.hid hown7; have HB7 := Lib.hid (below_grow HB6.out hg7 HB6.out.size (fun b e => (HOb.out.block b e).1)); have HG7 := Lib.hid hg7; have HW7 := Lib.hid hw7; clear hown7 hg7 hw7))
                  have HAG7 : Hid (∀ b', A7.map (·.block) = some b' → b' ≠ G) := Lib.hid fun b' e => by
                    rcases HW7.out b' e with h | h
                    · exact HAG.out b' h
                    · have := HLC6.out.1; omega
                  have HLC7 : Hid (G < w7.heap.size ∧ ∀ j y, L[j]? = some y → w7.cell? ⟨G, off + j, none⟩ = some (.string (str y)) ∧ y.length ≤ 9223372036854775807) := Lib.hid ⟨Nat.lt_of_lt_of_le HLC6.out.1 HG7.out.size, fun j y h => ⟨(Fr.of_grown (S := fun b' => A.map (·.block) = some b') HG7.out (fun b' e => e)).cell (fun h => HAG.out G h rfl) (HLC6.out.2 j y h).1, (HLC6.out.2 j y h).2⟩⟩
                  exact ⟨⟨j + 1, A7, m7, d7, bs ++ vb, by omega, rfl, by go_num, HO7, HB7, HAG7, HLC7, HR6, Lib.hid (by rw [List.length_append]; have := HL6.out; have := HVL.out; omega)⟩, by simp [intOf]; omega⟩
              · obtain rfl : ln = j := by omega
                have HR6 : Hid (r = bothW (.ok bs) Z) := Lib.hid (by rw [HR.out, List.drop_eq_nil_of_le (by have := HLN.out; omega), show putsM text [] = .ok [] from rfl, bothW_okN])
                have HL6 : Hid (bs.length + ZW ≤ 140737488355328) := Lib.hid (by have := HL.out; omega)
                go_wp2_with fail
                go_meet
                exact ⟨A, n, c, bs, rfl, HO, HB, HR6, HL6⟩
          case rest => as_aux_lemma =>
          obtain ⟨A8, n8, c8, b8, rfl, HO8, HB8, HR8, HL8⟩ := hcut
          obtain ⟨w8, hwo⟩ : ∃ wo, wo = wc := ⟨_, rfl⟩
          subst hwo
          clear HOq HBq HAG HRq HLq HLC hlq hl3 HL3 HLN HLE
          have HBW8 := Lib.hid (HB1.out.trans (HB2.out.trans (HB8.out.mono HB2.out.size) |>.mono HB1.out.size))
          have hrg : w8.rangeAt b (o + k * 8 + 3) [.int .u16 (x.type.id : Int), .string (str x.type.space), .string (str x.type.name), .slice A1 n1 c1, .slice A2 n2 c2] := fun j u h => by
            have h' := HCE.out _ HBW8.out (j + 3) u h
            rw [show o + k * 8 + 3 + j = o + k * 8 + (j + 3) by omega]
            exact h'
          have HX8 := Lib.hid (goesBx.after HX2.out HB8.out)
          have k1 := HX8.out.c 1 _ (show V[1]? = some (.slice (some ⟨b, o, none⟩) cn cc) by rw [HV.out]; rfl)
          have xl8 := HX8.out.lt
          obtain ⟨rv, hrv⟩ : ∃ z, putW (dp + 1) x.type = z := ⟨_, rfl⟩
          have HRV := Lib.hid hrv; clear hrv
          go_wp2_with (first | (refine wpList_load_mid (by rfl) 62 _ (by rfl) b (o + k * 8 + 3) (by rfl) [.int .u16 (x.type.id : Int), .string (str x.type.space), .string (str x.type.name), .slice A1 n1 c1, .slice A2 n2 c2] _ hrg Tryd.underlying62 rfl (by kernel_rfl) ?_))
          refine (Put4_any (HOP.out.after HBW8.out) hM HNX.out rv HRV.out).mono ?_
          rintro e w9 ⟨A9, m9, d9, rfl, ho9, hb9⟩
          have HO9 := Lib.hid ho9
          have HOb := Lib.hid (HO8.out.after hb9)
          have HB9 := Lib.hid (HB8.out.trans (hb9.mono HB8.out.size))
          clear ho9 hb9 HO8 HB8 hrg k1 xl8 HX8
          cases rv with
          | error e =>
            have hne : (e != 0) = true := by simpa using putW_nz HRV.out
            have HE : Hid (r = .error e) := Lib.hid (by rw [HR8.out, HZE.out, HRV.out]; rfl)
            simp only [werr_error]
            go_wp2_with fail
            go_ret2
            rw [HE.out]
            exact ⟨none, 0, 0, rfl, Own.nil, HB1.out.trans (HB2.out.trans (HB9.out.mono HB2.out.size) |>.mono HB1.out.size)⟩
          | ok vb =>
            have HVL : Hid (vb.length ≤ 200000 * nD (dp + 1) x.type) := Lib.hid (by have h := putW_le (dp + 1) x.type; rw [HRV.out] at h; exact h)
            have HR10 : Hid (r = bothW (.ok (b8 ++ vb)) (bothW (colRem (dp + 1) g t.cols (k + 1)) X)) := Lib.hid (by rw [HR8.out, HZE.out, HRV.out, bothW_mv])
            have HL10 : Hid ((b8 ++ vb).length + ((t.cols.drop (k + 1)).map (colWt (dp + 1))).sum + 4 + RW ≤ 140737488355328) := Lib.hid (by rw [List.length_append]; have := HL8.out; have := HZW.out; have := HVL.out; omega)
            have HLA : Hid (b8.length + vb.length ≤ 140737488355328) := Lib.hid (by have := HL10.out; rw [List.length_append] at this; omega)
            simp only [werr_ok, wval_ok] at HO9 ⊢
            go_wp2_with (first | (at_builtin; go_loud (refine wpList_appw rfl _ _ rfl w2.heap.size _ _ _ b8 rfl HOb.out _ _ _ _ vb rfl HO9.out.sl HLA.out HB9.out.size ?_); intro A10 m10 d10 w10 hown10 hg10 hw10; have HO10 := Lib.hid hown10; have HB10 := Lib.hid (below_grow HB9.out hg10 HB9.out.size (fun b e => (HOb.out.block b e).1)); clear hown10 hg10 hw10))
            exact ⟨⟨k + 1, A10, m10, d10, b8 ++ vb, by omega, rfl, by go_num, HO10, HB10, HR10, HL10⟩, by simp [intOf]; omega⟩
        · obtain rfl : cn = k := by omega
          have HR6 : Hid (r = bothW (.ok bs) X) := Lib.hid (by rw [HR.out, show cn = t.cols.length from HCL.out, colRem_end, bothW_okN])
          have HL6 : Hid (bs.length + 4 + RW ≤ 140737488355328) := Lib.hid (by have := HL.out; omega)
          go_wp2_with fail
          go_meet
          exact ⟨A, n, c, bs, rfl, HO, HB, HR6, HL6⟩
    case rest => as_aux_lemma =>
    obtain ⟨A9, n9, c9, b9, rfl, HO9, HB9, HR9, HL9⟩ := hcut
    obtain ⟨w9, hwo⟩ : ∃ wo, wo = wc := ⟨_, rfl⟩
    subst hwo
    clear HO7 HB7 HR7 HLT7
    have HX9 := Lib.hid (goesBx.after HX2.out HB9.out)
    have k5 := HX9.out.c 5 _ (show V[5]? = some (.slice qA qn qc) by rw [HV.out]; rfl)
    have xl9 := HX9.out.lt
    have hwq : IntKind.u64.wrap (qn : Int) = (qn : Int) := wrap_u64 (by omega)
    have hz9 := HB9.out.size
    go_upto_region 36 with (first | (go_at_call 38; refine (rput_any (qn : Int) 4 _ (by decide) (by decide) (by omega) (by omega)).mono ?_; rintro e w10 ⟨A10, m10, d10, rfl, ho10, hb10⟩; rw [Int.toNat_natCast] at ho10; have HO10 := Lib.hid ho10; have HO9b := Lib.hid (HO9.out.after hb10); have HB10 := Lib.hid (HB9.out.trans (hb10.mono hz9)); clear ho10 hb10) | (at_builtin; go_loud (refine wpList_appw rfl _ _ rfl w2.heap.size _ _ _ b9 rfl HO9b.out _ _ _ _ (enc 4 qn) rfl HO10.out.sl (by rw [enc_length]; have := HL9.out; omega) HB10.out.size ?_); intro A11 m11 d11 w11 hown11 hg11 hw11; have HO11 := Lib.hid hown11; have HB11 := Lib.hid (below_grow HB10.out hg11 HB10.out.size (fun b e => (HO9b.out.block b e).1)); clear hown11 hg11 hw11))
    have HR11 : Hid (r = bothW (.ok (b9 ++ enc 4 qn)) (putsM (putsM value) (t.rows.drop 0))) := Lib.hid (by rw [HR9.out, HXE.out, bothW_mv, List.drop_zero])
    have HL11 : Hid ((b9 ++ enc 4 qn).length + ((t.rows.drop 0).map rowWt).sum ≤ 140737488355328) := Lib.hid (by rw [List.length_append, enc_length, List.drop_zero, ← HRW.out]; have := HL9.out; omega)
    clear HO9 HO9b HO10 HB9 HB10 HX9 HR9 HL9 hz9 hwq k5 xl9 HXE HRW
    go_wp2_with fail
    go_loopw [8, 18, 19] (fun v i _ wr => ∃ k A n c bs, k ≤ qn ∧ v = .slice A n c ∧ i = .int .i64 ((k : Nat) : Int) ∧ Hid (Own w2.heap.size wr A n c bs) ∧ Hid (Below w2.heap.size w2 wr) ∧ Hid (r = bothW (.ok bs) (putsM (putsM value) (t.rows.drop k))) ∧ Hid (bs.length + ((t.rows.drop k).map rowWt).sum ≤ 140737488355328)) (fun _ i _ _ => qn - (intOf i).toNat)
    case atStart => exact ⟨0, A11, m11, d11, b9 ++ enc 4 qn, by omega, rfl, rfl, HO11, HB11, HR11, HL11⟩
    case round => as_aux_lemma =>
      clear HO11 HB11 HR11 HL11
      obtain ⟨k, A, n, c, bs, hk, rfl, rfl, HO, HB, HR, HL⟩ := hrel
      have HXr := Lib.hid (goesBx.after HX2.out HB.out)
      have k5 := HXr.out.c 5 _ (show V[5]? = some (.slice qA qn qc) by rw [HV.out]; rfl)
      have xlr := HXr.out.lt
      by_cases hlt : k < qn
      · obtain ⟨x, hx⟩ : ∃ x, t.rows[k]? = some x := ⟨_, List.getElem?_eq_getElem (by have := HQL.out; omega)⟩
        obtain ⟨b, o, hbo, hSb, hbs, HC⟩ := HS.out.rw.at (by decide) (by show 0 < qn; omega)
        dsimp only at hbo
        subst hbo
        obtain ⟨v, _, hp, hv2⟩ := HC k x hx
        obtain ⟨RA, rn, rc, rfl, hra⟩ := hp
        have r0 := hv2 0 _ rfl
        simp only [Nat.mul_one, Nat.add_zero] at r0
        have HRL := Lib.hid hra.len
        have hq1 := hra.cap
        have hq2 := hra.capMax
        have HRA := Lib.hid hra
        have HR0 := Lib.hid r0
        have HDR := Lib.hid (drop_con hx)
        obtain ⟨Y, hY⟩ : ∃ Y, Y = putsM (putsM value) (t.rows.drop (k + 1)) := ⟨_, rfl⟩
        obtain ⟨YW, hYW⟩ : ∃ n, n = ((t.rows.drop (k + 1)).map rowWt).sum := ⟨_, rfl⟩
        have HRx : Hid (r = bothW (.ok bs) (bothW (putsM value (x.drop 0)) Y)) := Lib.hid (by rw [HR.out, HDR.out, putsM_con, hY, List.drop_zero])
        have HLx : Hid (bs.length + ((x.drop 0).map fun v => v.bytes.length + 4).sum + YW ≤ 140737488355328) := Lib.hid (by have h := HL.out; rw [HDR.out, List.map_cons, List.sum_cons] at h; rw [List.drop_zero, hYW]; have : rowWt x = (x.map fun v => v.bytes.length + 4).sum := rfl; omega)
        have HYE := Lib.hid hY
        have HYW := Lib.hid hYW
        clear HC hv2 hra hx r0 hY hYW HR HL HDR
        obtain ⟨wo, hwo⟩ : ∃ wo, wo = wr := ⟨_, rfl⟩
        subst hwo
        go_wp2_with fail
        clear k5 xlr
        go_loopw [8, 19] (fun v i wr => ∃ j A n c bs, j ≤ rn ∧ v = .slice A n c ∧ i = .int .i64 ((j : Nat) : Int) ∧ Hid (Own w2.heap.size wr A n c bs) ∧ Hid (Below w2.heap.size w2 wr) ∧ Hid (r = bothW (.ok bs) (bothW (putsM value (x.drop j)) Y)) ∧ Hid (bs.length + ((x.drop j).map fun v => v.bytes.length + 4).sum + YW ≤ 140737488355328)) (fun _ i _ => rn - (intOf i).toNat)
        case atStart => exact ⟨0, A, n, c, bs, by omega, rfl, rfl, HO, HB, HRx, HLx⟩
        case round => as_aux_lemma =>
          clear HO HB HXr HRx HLx
          obtain ⟨j, A, n, c, bs, hj, rfl, rfl, HO, HB, HR, HL⟩ := hrel
          have HXr := Lib.hid (goesBx.after HX2.out HB.out)
          have k5 := HXr.out.c 5 _ (show V[5]? = some (.slice (some ⟨b, o, none⟩) qn qc) by rw [HV.out]; rfl)
          have xlr := HXr.out.lt
          have HBW := Lib.hid (HB1.out.trans (HB2.out.trans (HB.out.mono HB2.out.size) |>.mono HB1.out.size))
          have r0 := kcell HBW.out HR0.out
          by_cases hlt2 : j < rn
          · obtain ⟨y, hy⟩ : ∃ y, x[j]? = some y := ⟨_, List.getElem?_eq_getElem (by have := HRL.out; omega)⟩
            obtain ⟨d, p, hdp, hSd, hds, HD⟩ := HRA.out.at (by decide) (by omega)
            subst hdp
            obtain ⟨v, _, ⟨rfl, _⟩, hv2⟩ := HD j y hy
            have a0 := kcell HBW.out (hv2 0 _ rfl)
            have a1 := kcell HBW.out (hv2 1 _ rfl)
            simp only [Nat.add_zero] at a0
            have HDR := Lib.hid (drop_con hy)
            have HL2 : Hid (bs.length + (y.bytes.length + 4) + ((x.drop (j + 1)).map fun v => v.bytes.length + 4).sum + YW ≤ 140737488355328) := Lib.hid (by have h := HL.out; rw [HDR.out, List.map_cons, List.sum_cons] at h; omega)
            obtain ⟨rv, hrv⟩ : ∃ z, value y = z := ⟨_, rfl⟩
            have HRV := Lib.hid hrv
            clear hrv HD hv2 hy HL
            go_wp2_with fail
            refine (rvalue_any y _ (by have := HL2.out; omega) rv HRV.out).mono ?_
            rintro e w6 ⟨A6, m6, d6, rfl, ho6, hb6⟩
            have HO6 := Lib.hid ho6
            have HOb := Lib.hid (HO.out.after hb6)
            have HB6 := Lib.hid (HB.out.trans (hb6.mono HB.out.size))
            clear ho6 hb6 HO HB HXr k5 xlr HBW r0 a0 a1
            cases rv with
            | error e =>
              have hne : (e != 0) = true := by simpa using value_ne HRV.out
              have HE : Hid (r = .error e) := Lib.hid (by rw [HR.out, HDR.out, putsM_con, HRV.out]; rfl)
              simp only [werr_error]
              go_wp2_with fail
              go_ret2
              rw [HE.out]
              exact ⟨none, 0, 0, rfl, Own.nil, HB1.out.trans (HB2.out.trans (HB6.out.mono HB2.out.size) |>.mono HB1.out.size)⟩
            | ok vb =>
              have HVL : Hid (vb.length ≤ y.bytes.length + 4) := Lib.hid (by have h := value_le y; rw [HRV.out] at h; exact h)
              have HR6 : Hid (r = bothW (.ok (bs ++ vb)) (bothW (putsM value (x.drop (j + 1))) Y)) := Lib.hid (by rw [HR.out, HDR.out, putsM_con, HRV.out, ← bothW_assoc, bothW_mv])
              simp only [werr_ok, wval_ok] at HO6 ⊢
              clear HR HDR
              go_wp2_with (first | (at_builtin; go_loud (refine wpList_appw rfl _ _ rfl w2.heap.size _ _ _ bs rfl HOb.out _ _ _ _ vb rfl HO6.out.sl (by have := HL2.out; have := HVL.out; omega) HB6.out.size ?_); intro A7 m7 d7 w7 hown7 hg7 hw7; have HO7 := Lib.hid hown7; have HB7 := Lib.hid (below_grow HB6.out hg7 HB6.out.size (fun b e => (HOb.out.block b e).1)); clear hown7 hg7 hw7))
              exact ⟨⟨j + 1, A7, m7, d7, bs ++ vb, by omega, rfl, by go_num, HO7, HB7, HR6, Lib.hid (by rw [List.length_append]; have := HL2.out; have := HVL.out; omega)⟩, by simp [intOf]; omega⟩
          · obtain rfl : rn = j := by omega
            have HR6 : Hid (r = bothW (.ok bs) (putsM (putsM value) (t.rows.drop (k + 1)))) := Lib.hid (by rw [HR.out, List.drop_eq_nil_of_le (by have := HRL.out; omega), show putsM value [] = .ok [] from rfl, bothW_okN, HYE.out])
            have HL6 : Hid (bs.length + ((t.rows.drop (k + 1)).map rowWt).sum ≤ 140737488355328) := Lib.hid (by have := HL.out; have := HYW.out; omega)
            go_wp2_with fail
            exact ⟨⟨k + 1, A, n, c, bs, by omega, rfl, by go_num, HO, HB, HR6, HL6⟩, by simp [intOf]; omega⟩
      · obtain rfl : qn = k := by omega
        have HE : Hid (r = .ok bs) := Lib.hid (by rw [HR.out, List.drop_eq_nil_of_le (by have := HQL.out; omega), show putsM (putsM value) [] = .ok [] from rfl, bothW_nilT])
        go_wp2_with fail
        go_ret2
        rw [HE.out]
        exact ⟨A, n, c, rfl, HO.out.mono (by have := HB1.out.size; have := HB2.out.size; omega), HB1.out.trans (HB2.out.trans (HB.out.mono HB2.out.size) |>.mono HB1.out.size)⟩
end Go.Proofs.Sb
