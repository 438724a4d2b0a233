/- Walk over signalboxref10.may: may a table be put? No conditions. -/
import Derived.Test.YtenhgcgdhaegaaaDoorTrd
import Derived.Test.YtenhgcgdhaegaaaDoorTap
import Derived.Deep.QuietTactic
import Derived.BigQuiet
set_option linter.unusedVariables false
set_option linter.unusedSimpArgs false
namespace Sb
theorem same_t {cs : List Col} (h : ∀ x ∈ cs, otherC (cs.headD Col.none) x = false) : sameT cs = true := by
  rw [all_other, List.any_eq_false.2 (fun x hx => by rw [h x hx]; decide)]
  rfl
theorem same_f {cs : List Col} {x : Col} (hx : x ∈ cs) (h : otherC (cs.headD Col.none) x = true) : sameT cs = false := by
  rw [all_other, List.any_eq_true.2 ⟨x, hx, h⟩]
  rfl
theorem rows_f {n : Int} {rs : List (List Val)} {l : List Val} (hl : l ∈ rs) (h : rowOk n l = false) : rs.all (rowOk n) = false := by
  rw [List.all_eq_false]
  exact ⟨l, hl, by rw [h]; decide⟩
theorem rowOk_len {n : Int} {l : List Val} (h : ¬ (l.length : Int) = n) : rowOk n l = false := by unfold rowOk; rw [decide_eq_false h]; rfl
theorem rowOk_kind {n : Int} {l : List Val} {v : Val} (hv : v ∈ l) (h : v.kind = 1) : rowOk n l = false := by
  unfold rowOk
  rw [List.all_eq_false.2 ⟨v, hv, by simp [h]⟩, Bool.and_false]
theorem rowOk_t {n : Int} {l : List Val} (h : (l.length : Int) = n) (h2 : ∀ v ∈ l, v.kind ≠ 1) : rowOk n l = true := by
  unfold rowOk
  rw [decide_eq_true h, List.all_eq_true.2 fun v hv => decide_eq_true (h2 v hv)]
  rfl
def D10 (t : Tb) : Bool := decide (0 ≤ t.count ∧ t.count ≤ 4096 ∧ t.rows.length ≤ 4096 ∧ (t.cols.length = 0 ∨ (t.cols.length : Int) = t.count))
theorem fitsT_eq (t : Tb) (one : Bool) : fitsT t one = (D10 t && (!(one && !sameT t.cols) && t.rows.all (rowOk t.count))) := rfl
theorem take_all {α : Type} {P : α → Prop} {l : List α} {k : Nat} {x : α} (h : ∀ y ∈ l.take k, P y) (hx : l[k]? = some x) (hp : P x) : ∀ y ∈ l.take (k + 1), P y := by
  intro y hy
  rw [List.take_add_one, hx] at hy
  rcases List.mem_append.1 hy with hy | hy
  · exact h y hy
  · have : y = x := by simpa using hy
    rw [this]
    exact hp
end Sb
namespace Go.Proofs.Sb
open Go.RowKit _root_.Sb
set_option maxHeartbeats 8000000 in
set_option maxRecDepth 100000 in
theorem rmay10_any {M dp : Nat} {S : Nat → Prop} {w : World} {t : Tb} {c q : Pl3} {one : Bool} (ht : RTbR M dp S w c q t) :
    Calls Tryd.prog 37 #[.agg (rTV t c q).toArray, .bool one] w fun e w' => e = .returned (.bool (fitsT t one)) ∧ Below w.heap.size w w' := by
  obtain ⟨cA, cn, cc⟩ := c
  obtain ⟨qA, qn, qc⟩ := q
  have HCL := Lib.hid ht.cl.len
  have HQL := Lib.hid ht.rw.len
  have hp1 := ht.cl.cap
  have hp2 := ht.cl.capMax
  have hp3 := ht.rw.cap
  have hp4 := ht.rw.capMax
  dsimp only at HCL HQL hp1 hp2 hp3 hp4
  have HS := Lib.hid ht; clear ht
  obtain ⟨V, hV⟩ : ∃ V, V = rTV t (cA, cn, cc) (qA, qn, qc) := ⟨_, rfl⟩
  rw [← hV]
  have HV := Lib.hid hV; clear hV
  obtain ⟨cnt, hcnt⟩ : ∃ n, n = t.count := ⟨_, rfl⟩
  have HCT := Lib.hid hcnt
  have HFT : Hid (fitsT t one = (D10 t && (!(one && !sameT t.cols) && t.rows.all (rowOk cnt)))) := Lib.hid (by rw [hcnt]; exact fitsT_eq t one)
  have HDE : Hid (D10 t = decide (0 ≤ cnt ∧ cnt ≤ 4096 ∧ qn ≤ 4096 ∧ (cn = 0 ∨ (cn : Int) = cnt))) := Lib.hid (by unfold D10; rw [← hcnt, ← HCL.out, ← HQL.out])
  clear hcnt
  obtain ⟨r, hr⟩ : ∃ r, r = fitsT t one := ⟨_, rfl⟩
  rw [← hr]
  have HR := Lib.hid hr; clear hr
  obtain ⟨D, hD⟩ : ∃ D, D = D10 t := ⟨_, rfl⟩
  have HDD := Lib.hid hD; clear hD
  go_enter Tryd.func37, Tryd.ntmps37
  go_upto_region 1 with fail
  obtain ⟨w2, hw2⟩ : ∃ w2, w2 = w.alloc (.cells V.toArray 38) := ⟨_, rfl⟩
  rw [← hw2]
  have HB2 : Hid (Below w.heap.size w w2) := Lib.hid (by rw [hw2]; exact (Below.refl _ _).alloc (Nat.le_refl _) _)
  have HX2 : Hid (Bx (fun b => b = w.heap.size) w2 w.heap.size V) := Lib.hid (by
    rw [hw2]
    exact Bx.alloc w V.toArray 38 (S := fun b => b = w.heap.size) rfl rfl)
  clear hw2
  have hlt2 : w.heap.size < w2.heap.size := HX2.out.lt
  have k0 := HX2.out.c 0 _ (show V[0]? = some (.int .i64 cnt) by rw [HV.out, HCT.out]; rfl)
  have k1 := HX2.out.c 1 _ (show V[1]? = some (.slice cA cn cc) by rw [HV.out]; rfl)
  have k5 := HX2.out.c 5 _ (show V[5]? = some (.slice qA qn qc) by rw [HV.out]; rfl)
  go_cut [35] (fun v wx => ∃ nd, v = .bool nd ∧ Hid (nd = !D) ∧ wx = w2)
  case first =>
    by_cases h0 : cnt < 0
    · have HE : Hid (D = false) := Lib.hid (by rw [HDD.out, HDE.out]; exact decide_eq_false (by omega))
      have d0 : decide (cnt < 0) = true := decide_eq_true h0
      go_wp2_with fail
      go_meet
      exact ⟨_, rfl, by rw [HE.out]; rfl, rfl⟩
    · have d0 : decide (cnt < 0) = false := decide_eq_false h0
      by_cases h1 : 4096 < cnt
      · have HE : Hid (D = false) := Lib.hid (by rw [HDD.out, HDE.out]; exact decide_eq_false (by omega))
        have d1 : decide (4096 < cnt) = true := decide_eq_true h1
        go_wp2_with fail
        go_meet
        exact ⟨_, rfl, by rw [HE.out]; rfl, rfl⟩
      · have d1 : decide (4096 < cnt) = false := decide_eq_false h1
        by_cases h2 : 4096 < qn
        · have HE : Hid (D = false) := Lib.hid (by rw [HDD.out, HDE.out]; exact decide_eq_false (by omega))
          have h2' : (4096 : Int) < (qn : Int) := by omega
          go_wp2_with fail
          go_meet
          exact ⟨_, rfl, by rw [HE.out]; rfl, rfl⟩
        · have h2' : ¬ (4096 : Int) < (qn : Int) := by omega
          by_cases h3 : 0 < cn
          · have h3' : (0 : Int) < (cn : Int) := by omega
            by_cases h4 : (cn : Int) = cnt
            · have HE : Hid (D = true) := Lib.hid (by rw [HDD.out, HDE.out]; exact decide_eq_true (by omega))
              have d4 : ((cn : Int) != cnt) = false := by simp [h4]
              clear h4
              go_wp2_with fail
              go_meet
              exact ⟨_, rfl, by rw [HE.out]; rfl, rfl⟩
            · have HE : Hid (D = false) := Lib.hid (by rw [HDD.out, HDE.out]; exact decide_eq_false (by omega))
              have d4 : ((cn : Int) != cnt) = true := by simp [h4]
              go_wp2_with fail
              go_meet
              exact ⟨_, rfl, by rw [HE.out]; rfl, rfl⟩
          · have HE : Hid (D = true) := Lib.hid (by rw [HDD.out, HDE.out]; exact decide_eq_true (by omega))
            have h3' : ¬ (0 : Int) < (cn : Int) := by omega
            go_wp2_with fail
            go_meet
            exact ⟨_, rfl, by rw [HE.out]; rfl, rfl⟩
  case rest =>
  obtain ⟨nd, rfl, HND, rfl⟩ := hcut
  obtain ⟨w2, hwo⟩ : ∃ wo, wo = wc := ⟨_, rfl⟩
  subst hwo
  cases D with
  | false =>
    obtain rfl : nd = true := HND.out
    have HE : Hid (r = false) := Lib.hid (by rw [HR.out, HFT.out, ← HDD.out]; rfl)
    go_wp2_with fail
    go_ret
    exact ⟨by rw [HE.out]; rfl, HB2.out⟩
  | true =>
    obtain rfl : nd = false := HND.out
    have HR2 : Hid (r = (!(one && !sameT t.cols) && t.rows.all (rowOk cnt))) := Lib.hid (by rw [HR.out, HFT.out, ← HDD.out, Bool.true_and])
    clear HR HFT HDE HDD k0 k1 k5
    go_upto_region 3 with fail
    go_wp2_with fail
    go_loopw [4, 5] (fun rv i wr => ∃ k : Nat, k ≤ cn ∧ rv = .bool false ∧ i = .int .i64 (k : Nat) ∧ Hid (Below w2.heap.size w2 wr) ∧ Hid (one = true → ∀ x ∈ t.cols.take k, otherC (t.cols.headD Col.none) x = false)) (fun _ i _ => cn - (intOf i).toNat)
    case atStart => exact ⟨0, by omega, rfl, rfl, Lib.hid (Below.refl _ _), fun _ x hx => by cases hx⟩
    case round =>
      obtain ⟨k, hk, rfl, rfl, HBr, HAL⟩ := hrel
      have hsz := HBr.out.size
      have k1 := (goesBx.after HX2.out HBr.out).c 1 _ (show V[1]? = some (.slice cA cn cc) by rw [HV.out]; rfl)
      have HBW := Lib.hid (HB2.out.trans (HBr.out.mono HB2.out.size))
      by_cases hlt : k < cn
      · cases one with
        | false =>
          go_wp2_with fail
          go_quiet (fail)
          go_wp2_with fail
          refine ⟨⟨k + 1, by omega, rfl, by go_num, Lib.hid (by have := HBr.out; exact (by repeat (first | exact Below.refl _ _ | assumption | refine Below.drew ?_ | refine below_drewN ?_ _ | refine Below.alloc ?_ (by simp) _ | refine Below.setCell ?_ (by simp) _))), fun h => by cases h⟩, by simp [intOf]; omega⟩
        | true =>
          obtain ⟨x, hx⟩ : ∃ x, t.cols[k]? = some x := ⟨_, List.getElem?_eq_getElem (by have := HCL.out; omega)⟩
          obtain ⟨c0, hc0⟩ : ∃ x, t.cols[0]? = some x := ⟨_, List.getElem?_eq_getElem (by have := HCL.out; omega)⟩
          have HC0 : Hid (t.cols.headD Col.none = c0) := Lib.hid (by
            cases hcs : t.cols with
            | nil => rw [hcs] at hc0; cases hc0
            | cons y l => rw [hcs] at hc0; injection hc0)
          obtain ⟨b, o, hbo, hSb, hbs, HC⟩ := (goesRTb.after HS.out HBW.out).cl.at (by decide) (by show 0 < cn; omega)
          dsimp only at hbo
          subst hbo
          obtain ⟨v, _, hp, hv2⟩ := HC k x hx
          obtain ⟨A1, n1, c1, A2, n2, c2, rfl, _⟩ := hp
          obtain ⟨v', _, hp', hv2'⟩ := HC 0 c0 hc0
          obtain ⟨A1', n1', c1', A2', n2', c2', rfl, _⟩ := hp'
          have a0 := hv2 0 _ rfl
          have a1 := hv2 1 _ rfl
          have b0 := hv2' 0 _ rfl
          have b1 := hv2' 1 _ rfl
          simp only [Nat.add_zero, Nat.zero_mul] at a0 b0 b1
          have HX := Lib.hid hx
          clear HC hv2 hv2' hSb hc0 hx
          have hkc : (k : Int) < (cn : Int) := by omega
          have h0c : 0 < cn := by omega
          have h0c' : (0 : Int) < (cn : Int) := by omega
          obtain ⟨u1, hu1⟩ : ∃ u, (x.space == c0.space) = u := ⟨_, rfl⟩
          obtain ⟨u2, hu2⟩ : ∃ u, (x.table == c0.table) = u := ⟨_, rfl⟩
          have HO : Hid (otherC c0 x = !(u1 && u2)) := Lib.hid (by
            rw [← hu1, ← hu2]
            unfold otherC
            by_cases e1 : x.space = c0.space <;> by_cases e2 : x.table = c0.table <;> simp [e1, e2])
          cases u1 with
          | false =>
            go_wp2_with fail
            go_quiet (fail)
            have HE : Hid (r = false) := Lib.hid (by rw [HR2.out, same_f (List.mem_of_getElem? HX.out) (by rw [HC0.out]; exact HO.out)]; rfl)
            go_wp2_with fail
            go_ret
            exact ⟨by rw [HE.out]; rfl, by have := HBW.out; exact (by repeat (first | exact Below.refl _ _ | assumption | refine Below.drew ?_ | refine below_drewN ?_ _ | refine Below.alloc ?_ (by simp) _ | refine Below.setCell ?_ (by simp) _))⟩
          | true =>
            cases u2 with
            | false =>
              go_wp2_with fail
              go_quiet (fail)
              have HE : Hid (r = false) := Lib.hid (by rw [HR2.out, same_f (List.mem_of_getElem? HX.out) (by rw [HC0.out]; exact HO.out)]; rfl)
              go_wp2_with fail
              go_ret
              exact ⟨by rw [HE.out]; rfl, by have := HBW.out; exact (by repeat (first | exact Below.refl _ _ | assumption | refine Below.drew ?_ | refine below_drewN ?_ _ | refine Below.alloc ?_ (by simp) _ | refine Below.setCell ?_ (by simp) _))⟩
            | true =>
              go_wp2_with fail
              go_quiet (fail)
              go_wp2_with fail
              refine ⟨⟨k + 1, by omega, rfl, by go_num, Lib.hid (by have := HBr.out; exact (by repeat (first | exact Below.refl _ _ | assumption | refine Below.drew ?_ | refine below_drewN ?_ _ | refine Below.alloc ?_ (by simp) _ | refine Below.setCell ?_ (by simp) _))), fun h => take_all (HAL.out h) HX.out (by rw [HC0.out]; exact HO.out)⟩, by simp [intOf]; omega⟩
      · obtain rfl : cn = k := by omega
        have HR3 : Hid (r = t.rows.all (rowOk cnt)) := Lib.hid (by
          rw [HR2.out]
          cases one with
          | false => rfl
          | true =>
            have h := HAL.out rfl
            rw [List.take_of_length_le (by have := HCL.out; omega)] at h
            rw [same_t h]
            rfl)
        clear HR2 HAL
        have HX3 := Lib.hid (goesBx.after HX2.out HBr.out)
        clear HX2
        obtain ⟨w3, hwo⟩ : ∃ wo, wo = wr := ⟨_, rfl⟩
        subst hwo
        go_wp2_with fail
        clear k1
        go_loopw [6, 7] (fun i _ wr => ∃ k : Nat, k ≤ qn ∧ i = .int .i64 (k : Nat) ∧ Hid (Below w3.heap.size w3 wr) ∧ Hid (∀ x ∈ t.rows.take k, rowOk cnt x = true)) (fun i _ _ => qn - (intOf i).toNat)
        case atStart => exact ⟨0, by omega, rfl, Lib.hid (Below.refl _ _), fun x hx => by cases hx⟩
        case round =>
          clear HBr
          obtain ⟨k, hk, rfl, HBr, HAL⟩ := hrel
          have hsr := HBr.out.size
          have HX5 := Lib.hid (goesBx.after HX3.out HBr.out)
          have k5 := HX5.out.c 5 _ (show V[5]? = some (.slice qA qn qc) by rw [HV.out]; rfl)
          have k0 := HX5.out.c 0 _ (show V[0]? = some (.int .i64 cnt) by rw [HV.out, HCT.out]; rfl)
          have HB5 := Lib.hid (HBW.out.trans (HBr.out.mono HBW.out.size))
          by_cases hlt2 : k < qn
          · obtain ⟨x, hx⟩ : ∃ x, t.rows[k]? = some x := ⟨_, List.getElem?_eq_getElem (by have := HQL.out; omega)⟩
            obtain ⟨b, o, hbo, hSb, hbs, HC⟩ := (goesRTb.after HS.out HB5.out).rw.at (by decide) (by show 0 < qn; omega)
            dsimp only at hbo
            subst hbo
            obtain ⟨v, _, hp, hv2⟩ := HC k x hx
            obtain ⟨RA, rn, rc, rfl, hra⟩ := hp
            have r0 := hv2 0 _ rfl
            simp only [Nat.mul_one, Nat.add_zero] at r0
            have HRL := Lib.hid hra.len
            have hq1 := hra.cap
            have hq2 := hra.capMax
            have HRA := Lib.hid hra
            have HR0 := Lib.hid r0
            have HX := Lib.hid hx
            clear HC hv2 hra hSb hx
            have hkc : (k : Int) < (qn : Int) := by omega
            obtain ⟨wo, hwo⟩ : ∃ wo, wo = wr := ⟨_, rfl⟩
            subst hwo
            by_cases hrl : (rn : Int) = cnt
            · have hu : ((rn : Int) != cnt) = false := by simp [hrl]
              have HLE : Hid ((x.length : Int) = cnt) := Lib.hid (by rw [← HRL.out]; exact hrl)
              clear hrl
              go_wp2_with fail
              go_quiet (fail)
              go_wp2_with fail
              clear k5 k0 r0
              go_loopw [7] (fun i wr => ∃ j : Nat, j ≤ rn ∧ i = .int .i64 (j : Nat) ∧ Hid (Below wo.heap.size wo wr) ∧ Hid (∀ v ∈ x.take j, v.kind ≠ 1)) (fun i _ => rn - (intOf i).toNat)
              case atStart => exact ⟨0, by omega, rfl, Lib.hid (by exact (by repeat (first | exact Below.refl _ _ | assumption | refine Below.drew ?_ | refine below_drewN ?_ _ | refine Below.alloc ?_ (by simp) _ | refine Below.setCell ?_ (by simp) _))), fun v hv => by cases hv⟩
              case round =>
                obtain ⟨j, hj, rfl, HBq, HKJ⟩ := hrel
                have hsq := HBq.out.size
                have k5 := (goesBx.after HX5.out HBq.out).c 5 _ (show V[5]? = some (.slice (some ⟨b, o, none⟩) qn qc) by rw [HV.out]; rfl)
                have k0 := (goesBx.after HX5.out HBq.out).c 0 _ (show V[0]? = some (.int .i64 cnt) by rw [HV.out, HCT.out]; rfl)
                have r0 := kcell HBq.out HR0.out
                have hrn : (rn : Int) = cnt := by have := HLE.out; have := HRL.out; omega
                by_cases hlt3 : j < rn
                · have hj1 : (j : Int) < cnt := by omega
                  have hj2 : (j : Int) < (rn : Int) := by omega
                  clear hrn
                  obtain ⟨y, hy⟩ : ∃ y, x[j]? = some y := ⟨_, List.getElem?_eq_getElem (by have := HRL.out; omega)⟩
                  obtain ⟨d, p, hdp, hSd, hds, HD⟩ := (goesArr.after HRA.out HBq.out).at (by decide) (by omega)
                  subst hdp
                  obtain ⟨v, _, ⟨rfl, _⟩, hv2⟩ := HD j y hy
                  have a0 := hv2 0 _ rfl
                  simp only [Nat.add_zero] at a0
                  have HY := Lib.hid hy
                  clear HD hv2 hSd hy
                  by_cases hy1 : y.kind = 1
                  · have hyb : (y.kind == 1) = true := by simp [hy1]
                    have HE : Hid (r = false) := Lib.hid (by rw [HR3.out, rows_f (List.mem_of_getElem? HX.out) (rowOk_kind (List.mem_of_getElem? HY.out) hy1)])
                    clear hy1
                    go_wp2_with fail
                    go_ret
                    exact ⟨by rw [HE.out]; rfl, HB5.out.trans (HBq.out.mono HB5.out.size)⟩
                  · have hyb : (y.kind == 1) = false := by simp [hy1]
                    have HN := Lib.hid (take_all HKJ.out HY.out hy1)
                    clear hy1
                    go_wp2_with fail
                    refine ⟨⟨j + 1, by omega, by go_num, HBq, HN⟩, by simp [intOf]; omega⟩
                · obtain rfl : rn = j := by omega
                  have hj1 : ¬ (rn : Int) < cnt := by omega
                  clear hrn
                  have HN : Hid (rowOk cnt x = true) := Lib.hid (rowOk_t HLE.out (by have h := HKJ.out; rw [List.take_of_length_le (by have := HRL.out; omega)] at h; exact h))
                  go_wp2_with fail
                  exact ⟨⟨k + 1, by omega, by go_num, Lib.hid (HBr.out.trans (HBq.out.mono hsr)), take_all HAL.out HX.out HN.out⟩, by simp [intOf]; omega⟩
            · have hu : ((rn : Int) != cnt) = true := by simp [hrl]
              have HE : Hid (r = false) := Lib.hid (by rw [HR3.out, rows_f (List.mem_of_getElem? HX.out) (rowOk_len (by rw [← HRL.out]; exact hrl))])
              clear hrl
              go_wp2_with fail
              go_quiet (fail)
              go_wp2_with fail
              go_ret
              exact ⟨by rw [HE.out]; rfl, by have := HB5.out; exact (by repeat (first | exact Below.refl _ _ | assumption | refine Below.drew ?_ | refine below_drewN ?_ _ | refine Below.alloc ?_ (by simp) _ | refine Below.setCell ?_ (by simp) _))⟩
          · obtain rfl : qn = k := by omega
            have HE : Hid (r = true) := Lib.hid (by
              rw [HR3.out, List.all_eq_true]
              have h := HAL.out
              rw [List.take_of_length_le (by have := HQL.out; omega)] at h
              exact h)
            go_wp2_with fail
            go_ret
            exact ⟨by rw [HE.out]; rfl, HB5.out⟩
end Go.Proofs.Sb
