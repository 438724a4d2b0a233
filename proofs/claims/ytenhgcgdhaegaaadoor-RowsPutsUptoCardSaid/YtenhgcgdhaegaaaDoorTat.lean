/- Walks over signalboxlaw10.size, few. No conditions but that the types are few. -/
import Derived.Test.YtenhgcgdhaegaaaDoorOptm
import Derived.Test.YtenhgcgdhaegaaaDoorTap
set_option linter.unusedVariables false
set_option linter.unusedSimpArgs false
namespace Sb
theorem fold_take {g : Opt → Nat} {l : List Opt} {k : Nat} {x : Opt} (h : l[k]? = some x) (a : Nat) : (l.take (k + 1)).foldl (fun n k => if n < 1000 then n + g k else n) a = (if (l.take k).foldl (fun n k => if n < 1000 then n + g k else n) a < 1000 then (l.take k).foldl (fun n k => if n < 1000 then n + g k else n) a + g x else (l.take k).foldl (fun n k => if n < 1000 then n + g k else n) a) := by
  obtain ⟨hk, rfl⟩ := List.getElem?_eq_some_iff.1 h
  rw [List.take_succ_eq_append_getElem hk, List.foldl_append]
  rfl
theorem sum_take {g : Opt → Nat} {l : List Opt} {k : Nat} {x : Opt} (h : l[k]? = some x) : ((l.take (k + 1)).map g).sum = ((l.take k).map g).sum + g x := by
  obtain ⟨hk, rfl⟩ := List.getElem?_eq_some_iff.1 h
  rw [List.take_succ_eq_append_getElem hk, List.map_append, List.sum_append]
  simp
theorem fold_small {g : Opt → Nat} {l : List Opt} (h : 1 + (l.map g).sum ≤ 200) (k : Nat) : (l.take k).foldl (fun n k => if n < 1000 then n + g k else n) 1 = 1 + ((l.take k).map g).sum := by
  refine fold_size _ 1 ?_
  have : ((l.take k).map g).sum ≤ (l.map g).sum := by
    have h2 : (l.map g).sum = ((l.take k).map g).sum + ((l.drop k).map g).sum := by rw [← List.sum_append, ← List.map_append, List.take_append_drop]
    omega
  omega
theorem take_le {g : Opt → Nat} (l : List Opt) (k : Nat) : ((l.take k).map g).sum ≤ (l.map g).sum := by
  have h2 : (l.map g).sum = ((l.take k).map g).sum + ((l.drop k).map g).sum := by rw [← List.sum_append, ← List.map_append, List.take_append_drop]
  omega
theorem sum_len {g : Opt → Nat} {M : Nat} : ∀ {l : List Opt}, (∀ x ∈ l, g x ≤ M) → (l.map g).sum ≤ l.length * M
  | [], _ => by simp
  | x :: l, h => by
    have h1 := h x (by simp)
    have h2 := sum_len (l := l) fun y hy => h y (List.mem_cons_of_mem _ hy)
    simp only [List.map_cons, List.sum_cons, List.length_cons, Nat.add_mul]
    omega
theorem few_take (d : Nat) (o : Opt) (deep : Nat) : fewD (d + 1) o deep = (decide (o.kids.length ≤ 10 ∧ o.names.length ≤ 20 ∧ deep ≤ 25) && (o.kids.all fun k => fewD d k (deep + 1)) && decide ((o.kids.map (sizeD d)).sum < 200)) := rfl
end Sb
namespace Go.Proofs.Sb
open Go.RowKit _root_.Sb

set_option maxHeartbeats 2000000 in
set_option maxRecDepth 100000 in
theorem size10_any : ∀ (d : Nat) {S : Nat → Prop} {M : Nat} {A1 : Option Addr} {n1 c1 : Nat} {A2 : Option Addr} {n2 c2 : Nat} {o : Opt} {w : World} {deep : Nat}, OptR S w M d A1 n1 c1 A2 n2 c2 o → fewD (d + 1) o deep = true →
    Calls Tryd.prog 60 #[optV o A1 n1 c1 A2 n2 c2] w fun e w' => e = .returned (.int .i64 (sizeD (d + 1) o : Nat)) ∧ Below w.heap.size w w' := by
  intro d
  induction d using Nat.strongRecOn with
  | ind d ih =>
  intro S M A1 n1 c1 A2 n2 c2 o w deep ho hf
  have hlen := Lib.hid ho.kids.len
  have hcap := ho.kids.cap
  have hcm := ho.kids.capMax
  have HS := Lib.hid ho.lt.kids; clear ho
  have hsz := few_size hf
  have HF := Lib.hid hf; clear hf
  have hsum : 1 + (o.kids.map (sizeD d)).sum ≤ 200 := by
    have h1 := HF.out
    rw [few_take] at h1
    simp only [Bool.and_eq_true, decide_eq_true_eq] at h1
    omega
  have HSU := Lib.hid hsum; clear hsum
  have hsd : sizeD (d + 1) o = 1 + (o.kids.map (sizeD d)).sum := by
    simp only [sizeD]
    exact fold_size _ 1 HSU.out
  have HSD := Lib.hid hsd; clear hsd hsz
  go_enter Tryd.func60, Tryd.ntmps60
  go_wp2_with fail
  go_loopw [3, 4] (fun q i wr => ∃ k s : Nat, k ≤ n2 ∧ i = .int .i64 (k : Nat) ∧ q = .int .i64 (s : Nat) ∧ Hid (s = 1 + ((o.kids.take k).map (sizeD d)).sum) ∧ Below w.heap.size w wr ∧ wr.cell? ⟨w.heap.size, 4, none⟩ = some (.slice A2 n2 c2)) (fun _ i _ => n2 - (intOf i).toNat)
  case atStart => exact ⟨0, 1, by omega, rfl, rfl, rfl, (by repeat (first | exact Below.refl _ _ | assumption | refine Below.drew ?_ | refine below_drewN ?_ _ | refine Below.alloc ?_ (by first | (simp; done) | omega | (simp; omega)) _ | refine Below.setCell ?_ (by first | (simp; done) | omega | (simp; omega)) _)), by go_simp⟩
  case round =>
    obtain ⟨k, s, hk, rfl, rfl, HQ, hbel, x4⟩ := hrel
    have hsz := hbel.size
    have hs2 : s ≤ 200 := by have := HQ.out; have := take_le (g := sizeD d) o.kids k; have := HSU.out; omega
    by_cases hlt : k < n2
    · skip
      obtain ⟨x, hx⟩ : ∃ x, o.kids[k]? = some x := ⟨_, List.getElem?_eq_getElem (by have := hlen.out; omega)⟩
      have HS1 := Lib.hid (HS.out.after hbel)
      obtain ⟨b, off, rfl, hSb, hbs, HC⟩ := HS1.out.at (by decide) (by omega)
      obtain ⟨v, hv1, hp, hv2⟩ := HC k x hx
      obtain ⟨e, B1, m1, d1, B2, m2, d2, rfl, rfl, hR⟩ := hp.open
      have hc0 := hv2 0 _ rfl
      have hc1 := hv2 1 _ rfl
      have hc2 := hv2 2 _ rfl
      have hc3 := hv2 3 _ rfl
      have hc4 := hv2 4 _ rfl
      simp only [Nat.add_zero] at hc0
      clear hv1 hv2 HC
      have HX := Lib.hid hx; clear hx
      have HR := Lib.hid hR; clear hR
      have hfk := few_kid HF.out (List.mem_of_getElem? HX.out)
      have HFK := Lib.hid hfk; clear hfk
      have hnx : sizeD (e + 1) x ≤ 200 := by have := few_size HFK.out; omega
      have HQ2 := Lib.hid (sum_take (g := sizeD (e + 1)) HX.out)
      go_wp2_with fail
      refine (ih e (by omega) ((HR.out.after hbel).after (by repeat (first | exact Below.refl _ _ | assumption | refine Below.drew ?_ | refine below_drewN ?_ _ | refine Below.alloc ?_ (by first | (simp; done) | omega | (simp; omega)) _ | refine Below.setCell ?_ (by first | (simp; done) | omega | (simp; omega)) _))) HFK.out).mono ?_
      rintro e1 w1 ⟨rfl, hb1⟩
      replace x4 := kcell hb1 x4
      generalize sizeD (e + 1) x = z at *
      go_wp2_with fail
      refine ⟨⟨k + 1, s + z, by omega, by go_num, by go_num, by have h1 := HQ2.out; have h2 := HQ.out; (have h3 : s + z = 1 + ((o.kids.take (k + 1)).map (sizeD (e + 1))).sum := by omega); exact h3, seqB hbel hb1, x4⟩, by simp [intOf]; omega⟩
    · obtain rfl : k = n2 := by omega
      have h0 : o.kids.take k = o.kids := List.take_of_length_le (by have := hlen.out; omega)
      have hq : sizeD (d + 1) o = s := by have h1 := HQ.out; rw [h0] at h1; rw [h1, HSD.out]
      clear h0
      have HQ3 := Lib.hid hq; clear hq
      go_wp2_with fail
      go_ret
      exact ⟨by rw [HQ3.out]; rfl, hbel⟩

set_option maxHeartbeats 2000000 in
set_option maxRecDepth 100000 in
theorem few10_any : ∀ (d : Nat) {S : Nat → Prop} {M : Nat} {A1 : Option Addr} {n1 c1 : Nat} {A2 : Option Addr} {n2 c2 : Nat} {o : Opt} {w : World} {deep : Nat}, OptR S w M d A1 n1 c1 A2 n2 c2 o → deep ≤ 26 →
    Calls Tryd.prog 30 #[optV o A1 n1 c1 A2 n2 c2, .int .i64 (deep : Int)] w fun e w' => e = .returned (.bool (fewD (d + 1) o deep)) ∧ Below w.heap.size w w' := by
  intro d
  induction d using Nat.strongRecOn with
  | ind d ih =>
  intro S M A1 n1 c1 A2 n2 c2 o w deep ho hd
  have hlen := Lib.hid ho.kids.len
  have hlen1 := Lib.hid ho.names.len
  have hcap := ho.kids.cap
  have hcm := ho.kids.capMax
  have hcap1 := ho.names.cap
  have hcm1 := ho.names.capMax
  have HS := Lib.hid ho.lt.kids; clear ho
  by_cases hbad : n2 ≤ 10 ∧ n1 ≤ 20 ∧ deep ≤ 25
  · obtain ⟨hb1, hb2, hb3⟩ := hbad
    have hcond : fewD (d + 1) o deep = ((o.kids.all fun k => fewD d k (deep + 1)) && decide ((o.kids.map (sizeD d)).sum < 200)) := by
      rw [few_take, decide_eq_true (by have := hlen.out; have := hlen1.out; omega), Bool.true_and]
    have HCO := Lib.hid hcond; clear hcond
    go_enter Tryd.func30, Tryd.ntmps30
    go_wp2_with fail
    go_loopw [5, 6, 7] (fun q i _ wr => ∃ k s : Nat, k ≤ n2 ∧ i = .int .i64 (k : Nat) ∧ q = .int .i64 (s : Nat) ∧ Hid (s = ((o.kids.take k).map (sizeD d)).sum ∧ (∀ x ∈ o.kids.take k, fewD d x (deep + 1) = true)) ∧ s ≤ k * 200 ∧ Below w.heap.size w wr ∧ wr.cell? ⟨w.heap.size, 4, none⟩ = some (.slice A2 n2 c2)) (fun _ i _ _ => n2 - (intOf i).toNat)
    case atStart => exact ⟨0, 0, by omega, rfl, rfl, ⟨rfl, fun x hx => by cases hx⟩, by omega, (by repeat (first | exact Below.refl _ _ | assumption | refine Below.drew ?_ | refine below_drewN ?_ _ | refine Below.alloc ?_ (by first | (simp; done) | omega | (simp; omega)) _ | refine Below.setCell ?_ (by first | (simp; done) | omega | (simp; omega)) _)), by go_simp⟩
    case round =>
      obtain ⟨k, s, hk, rfl, rfl, HQ, hs2, hbel, x4⟩ := hrel
      have hsz := hbel.size
      have hs3 : s ≤ 2000 := by omega
      by_cases hlt : k < n2
      · skip
        obtain ⟨x, hx⟩ : ∃ x, o.kids[k]? = some x := ⟨_, List.getElem?_eq_getElem (by have := hlen.out; omega)⟩
        have HS1 := Lib.hid (HS.out.after hbel)
        obtain ⟨b, off, rfl, hSb, hbs, HC⟩ := HS1.out.at (by decide) (by omega)
        obtain ⟨v, hv1, hp, hv2⟩ := HC k x hx
        obtain ⟨e, B1, m1, d1, B2, m2, d2, rfl, rfl, hR⟩ := hp.open
        have hc0 := hv2 0 _ rfl
        have hc1 := hv2 1 _ rfl
        have hc2 := hv2 2 _ rfl
        have hc3 := hv2 3 _ rfl
        have hc4 := hv2 4 _ rfl
        simp only [Nat.add_zero] at hc0
        clear hv1 hv2 HC
        have HX := Lib.hid hx; clear hx
        have HR := Lib.hid hR; clear hR
        have HQ2 := Lib.hid (sum_take (g := sizeD (e + 1)) HX.out)
        obtain ⟨fv, hfv⟩ : ∃ fv, fewD (e + 1) x (deep + 1) = fv := ⟨_, rfl⟩
        have HFV := Lib.hid hfv; clear hfv
        go_wp2_with fail
        rw [show ((deep : Int) + 1) = ((deep + 1 : Nat) : Int) by omega]
        refine (ih e (by omega) ((HR.out.after hbel).after (by repeat (first | exact Below.refl _ _ | assumption | refine Below.drew ?_ | refine below_drewN ?_ _ | refine Below.alloc ?_ (by first | (simp; done) | omega | (simp; omega)) _ | refine Below.setCell ?_ (by first | (simp; done) | omega | (simp; omega)) _))) (by omega)).mono ?_
        rintro e1 w1 ⟨rfl, hb1⟩
        rw [HFV.out]
        replace x4 := kcell hb1 x4
        replace hc0 := kcell hb1 hc0
        replace hc1 := kcell hb1 hc1
        replace hc2 := kcell hb1 hc2
        replace hc3 := kcell hb1 hc3
        replace hc4 := kcell hb1 hc4
        cases fv with
        | false =>
          have h0 : fewD (e + 1 + 1) o deep = false := by
            rw [HCO.out, Bool.and_eq_false_iff]
            left
            rw [List.all_eq_false]
            exact ⟨x, List.mem_of_getElem? HX.out, by rw [HFV.out]; decide⟩
          have H0 := Lib.hid h0; clear h0
          go_wp2_with fail
          go_ret
          exact ⟨by rw [H0.out]; rfl, seqB hbel hb1⟩
        | true =>
          have hnx : sizeD (e + 1) x ≤ 200 := by have := few_size HFV.out; omega
          go_wp2_with fail
          refine (size10_any e (HR.out.after (seqB hbel hb1)) HFV.out).mono ?_
          rintro e2 w2 ⟨rfl, hb2⟩
          replace x4 := kcell hb2 x4
          clear hc0 hc1 hc2 hc3 hc4
          generalize sizeD (e + 1) x = z at *
          go_wp2_with fail
          refine ⟨⟨k + 1, s + z, by omega, by go_num, by go_num, ⟨by have h1 := HQ2.out; have h2 := HQ.out.1; omega, fun y hy => ?_⟩, by omega, seqB hbel (seqB hb1 hb2), x4⟩, by simp [intOf]; omega⟩
          obtain ⟨hkl, hxk⟩ := List.getElem?_eq_some_iff.1 HX.out
          rw [List.take_succ_eq_append_getElem hkl, hxk] at hy
          rcases List.mem_append.1 hy with hy | hy
          · exact HQ.out.2 y hy
          · rw [List.mem_singleton.1 hy]; exact HFV.out
      · obtain rfl : k = n2 := by omega
        have h0 : o.kids.take k = o.kids := List.take_of_length_le (by have := hlen.out; omega)
        have hq : fewD (d + 1) o deep = decide (s < 200) := by
          have h1 := HQ.out
          rw [h0] at h1
          rw [HCO.out, List.all_eq_true.2 h1.2, Bool.true_and, h1.1]
        clear h0
        have HQ3 := Lib.hid hq; clear hq
        by_cases h200 : s < 200
        · go_wp2_with fail
          go_ret
          exact ⟨by rw [HQ3.out, decide_eq_true h200]; exact congrArg (fun b => Ending.returned (Value.bool b)) (decide_eq_true (by omega)), hbel⟩
        · go_wp2_with fail
          go_ret
          exact ⟨by rw [HQ3.out, decide_eq_false h200]; exact congrArg (fun b => Ending.returned (Value.bool b)) (decide_eq_false (by omega)), hbel⟩
  · have hres : fewD (d + 1) o deep = false := by
      rw [few_take, decide_eq_false (by have := hlen.out; have := hlen1.out; omega)]
      rfl
    have HRES := Lib.hid hres; clear hres
    by_cases h1 : n2 ≤ 10
    · by_cases h2 : n1 ≤ 20
      · have h3 : ¬ deep ≤ 25 := fun h => hbad ⟨h1, h2, h⟩
        clear hbad
        go_enter Tryd.func30, Tryd.ntmps30
        go_wp2_with fail
        go_ret
        exact ⟨by rw [HRES.out]; rfl, (by repeat (first | exact Below.refl _ _ | assumption | refine Below.drew ?_ | refine below_drewN ?_ _ | refine Below.alloc ?_ (by first | (simp; done) | omega | (simp; omega)) _ | refine Below.setCell ?_ (by first | (simp; done) | omega | (simp; omega)) _))⟩
      · clear hbad
        go_enter Tryd.func30, Tryd.ntmps30
        go_wp2_with fail
        go_ret
        exact ⟨by rw [HRES.out]; rfl, (by repeat (first | exact Below.refl _ _ | assumption | refine Below.drew ?_ | refine below_drewN ?_ _ | refine Below.alloc ?_ (by first | (simp; done) | omega | (simp; omega)) _ | refine Below.setCell ?_ (by first | (simp; done) | omega | (simp; omega)) _))⟩
    · clear hbad
      go_enter Tryd.func30, Tryd.ntmps30
      go_wp2_with fail
      go_ret
      exact ⟨by rw [HRES.out]; rfl, (by repeat (first | exact Below.refl _ _ | assumption | refine Below.drew ?_ | refine below_drewN ?_ _ | refine Below.alloc ?_ (by first | (simp; done) | omega | (simp; omega)) _ | refine Below.setCell ?_ (by first | (simp; done) | omega | (simp; omega)) _))⟩
end Go.Proofs.Sb

/- Walk over signalboxlaw10.slight. Conditions: none. -/
namespace Sb
/-- a table that is small enough -/
def slightT (D : Nat) (t : Tb) : Bool := (decide (t.cols.length ≤ 20) && decide (t.rows.length ≤ 20)) && ((t.cols.all fun c => fewD D c.type 0) && t.rows.all fun l => decide (l.length ≤ 30))
theorem slight_parts {D : Nat} {t : Tb} (h : slightT D t = true) : t.cols.length ≤ 20 ∧ t.rows.length ≤ 20 ∧ (∀ c ∈ t.cols, fewD D c.type 0 = true) ∧ ∀ l ∈ t.rows, l.length ≤ 30 := by
  unfold slightT at h
  simp only [Bool.and_eq_true, decide_eq_true_eq, List.all_eq_true] at h
  exact ⟨h.1.1, h.1.2, h.2.1, h.2.2⟩
end Sb
namespace Go.Proofs.Sb
open Go.RowKit _root_.Sb
set_option maxHeartbeats 4000000 in
set_option maxRecDepth 100000 in
theorem slight10_any {S : Nat → Prop} {M dp : Nat} {w : World} {c d q : Pl3} {t : Tb} (ht : TbR M dp S w c d q t) :
    Calls Tryd.prog 16 #[.agg (tabV t c d q).toArray] w fun e w' => e = .returned (.bool (slightT (dp + 1) t)) ∧ Below w.heap.size w w' := by
  have HT := Lib.hid (ht.mono (S' := fun b => S b ∧ b < w.heap.size) fun b h1 h2 => ⟨h1, h2⟩)
  have HCL := Lib.hid ht.cl.len
  have HRL := Lib.hid ht.rw.len
  have hccap := ht.cl.cap
  have hrcap := ht.rw.cap
  have hccm := ht.cl.capMax
  have hrcm := ht.rw.capMax
  clear ht
  obtain ⟨k1, hk1⟩ : ∃ k, decide ((20 : Int) < (c.2.1 : Int)) = k := ⟨_, rfl⟩
  obtain ⟨k2, hk2⟩ : ∃ k, decide ((20 : Int) < (q.2.1 : Int)) = k := ⟨_, rfl⟩
  have hf : slightT (dp + 1) t = ((!k1 && !k2) && ((t.cols.all fun c => fewD (dp + 1) c.type 0) && t.rows.all fun l => decide (l.length ≤ 30))) := by
    unfold slightT
    rw [← hk1, ← hk2, HCL.out, HRL.out]
    congr 1
    rw [Bool.eq_iff_iff]
    simp only [Bool.and_eq_true, Bool.not_eq_true', decide_eq_true_eq, decide_eq_false_iff_not]
    omega
  have HF := Lib.hid hf; clear hf
  show Calls Tryd.prog 16 #[.agg #[.int .i64 t.count, .slice c.1 c.2.1 c.2.2, .bool t.more, .int .i64 t.state.kind, .slice d.1 d.2.1 d.2.2, .slice q.1 q.2.1 q.2.2]] w _
  go_enter Tryd.func16, Tryd.ntmps16
  cases k1 with
  | true => go_wp2_with fail; go_ret; exact ⟨by rw [HF.out]; rfl, (by repeat (first | exact Below.refl _ _ | assumption | refine Below.drew ?_ | refine below_drewN ?_ _ | refine Below.alloc ?_ (by first | (simp; done) | omega | (simp; omega)) _ | refine Below.setCell ?_ (by first | (simp; done) | omega | (simp; omega)) _))⟩
  | false =>
  cases k2 with
  | true => go_wp2_with fail; go_ret; exact ⟨by rw [HF.out]; rfl, (by repeat (first | exact Below.refl _ _ | assumption | refine Below.drew ?_ | refine below_drewN ?_ _ | refine Below.alloc ?_ (by first | (simp; done) | omega | (simp; omega)) _ | refine Below.setCell ?_ (by first | (simp; done) | omega | (simp; omega)) _))⟩
  | false =>
  go_wp2_with fail
  go_loopw [3, 4] (fun i _ wr => ∃ k : Nat, k ≤ c.2.1 ∧ i = .int .i64 (k : Nat) ∧ Hid (∀ x ∈ t.cols.take k, fewD (dp + 1) x.type 0 = true) ∧ Below w.heap.size w wr ∧ wr.cell? ⟨w.heap.size, 1, none⟩ = some (.slice c.1 c.2.1 c.2.2) ∧ wr.cell? ⟨w.heap.size, 5, none⟩ = some (.slice q.1 q.2.1 q.2.2)) (fun i _ _ => c.2.1 - (intOf i).toNat)
  case atStart => exact ⟨0, by omega, rfl, (fun x hx => (by cases hx)), (by repeat (first | exact Below.refl _ _ | assumption | refine Below.drew ?_ | refine below_drewN ?_ _ | refine Below.alloc ?_ (by first | (simp; done) | omega | (simp; omega)) _ | refine Below.setCell ?_ (by first | (simp; done) | omega | (simp; omega)) _)), by go_simp, by go_simp⟩
  case round =>
    obtain ⟨k, hk, rfl, HA, hb, h1, h5⟩ := hrel
    by_cases hlt : k < c.2.1
    · obtain ⟨x, hx⟩ : ∃ x, t.cols[k]? = some x := ⟨_, List.getElem?_eq_getElem (by have := HCL.out; omega)⟩
      obtain ⟨b, off, hbo, hSb, hbs, HC⟩ := HT.out.cl.at (by decide) (by omega)
      obtain ⟨v, hv1, hp, hv2⟩ := HC k x hx
      obtain ⟨A1, n1, j1, A2, n2, j2, rfl, _, _, _, hxo⟩ := hp
      have hc3 := kcell hb (hv2 3 _ rfl)
      have hc4 := kcell hb (hv2 4 _ rfl)
      have hc5 := kcell hb (hv2 5 _ rfl)
      have hc6 := kcell hb (hv2 6 _ rfl)
      have hc7 := kcell hb (hv2 7 _ rfl)
      have HO := Lib.hid (hxo.after hb)
      clear hv1 hv2 HC hxo hSb
      have HX := Lib.hid hx; clear hx
      obtain ⟨mv, hmv⟩ : ∃ mv, fewD (dp + 1) x.type 0 = mv := ⟨_, rfl⟩
      have HMV := Lib.hid hmv; clear hmv
      go_wp2_with fail
      refine (few10_any dp (deep := 0) HO.out (by omega)).mono ?_
      rintro e1 w1 ⟨rfl, hb1⟩
      rw [HMV.out]
      have h1' := kcell hb1 h1
      have h5' := kcell hb1 h5
      have hbb := seqB hb hb1
      clear hc3 hc4 hc5 hc6 hc7 h1 h5 hbo hbs
      cases mv with
      | false =>
        go_wp2_with fail
        go_ret
        refine ⟨?_, hbb⟩
        have hn : (t.cols.all fun c => fewD (dp + 1) c.type 0) = false := by
          rw [List.all_eq_false]
          exact ⟨x, List.mem_of_getElem? HX.out, by rw [HMV.out]; decide⟩
        rw [HF.out, hn]
        rfl
      | true =>
        go_wp2_with fail
        refine ⟨⟨k + 1, by omega, by go_num, fun y hy => ?_, hbb, h1', h5'⟩, by simp [intOf]; omega⟩
        obtain ⟨hkl, hxk⟩ := List.getElem?_eq_some_iff.1 HX.out
        rw [List.take_succ_eq_append_getElem hkl, hxk] at hy
        rcases List.mem_append.1 hy with hy | hy
        · exact HA.out y hy
        · rw [List.mem_singleton.1 hy]; exact HMV.out
    · have hkn : k = c.2.1 := by omega
      have hall : (t.cols.all fun c => fewD (dp + 1) c.type 0) = true := by
        rw [List.all_eq_true]
        intro x hx
        refine HA.out x ?_
        rw [List.take_of_length_le (by have := HCL.out; omega)]
        exact hx
      rw [hall] at HF
      clear hall hkn HA
      go_wp2_with fail
      go_loopw [5] (fun i wr => ∃ k : Nat, k ≤ q.2.1 ∧ i = .int .i64 (k : Nat) ∧ Hid (∀ x ∈ t.rows.take k, decide (x.length ≤ 30) = true) ∧ Below w.heap.size w wr ∧ wr.cell? ⟨w.heap.size, 5, none⟩ = some (.slice q.1 q.2.1 q.2.2)) (fun i _ => q.2.1 - (intOf i).toNat)
      case atStart => exact ⟨0, by omega, rfl, (fun x hx => (by cases hx)), hb, h5⟩
      case round =>
        clear hb h1 h5
        obtain ⟨k, hk, rfl, HA, hb, h5⟩ := hrel
        by_cases hlt : k < q.2.1
        · obtain ⟨x, hx⟩ : ∃ x, t.rows[k]? = some x := ⟨_, List.getElem?_eq_getElem (by have := HRL.out; omega)⟩
          obtain ⟨b, off, hbo, hSb, hbs, HC⟩ := HT.out.rw.at (by decide) (by omega)
          obtain ⟨v, hv1, hp, hv2⟩ := HC k x hx
          obtain ⟨XA, XN, XK, rfl, hxr⟩ := hp
          have hc0 := kcell hb (hv2 0 _ rfl)
          simp only [Nat.add_zero, Nat.mul_one] at hc0
          have hxl := Lib.hid hxr.len
          clear hv1 hv2 HC hxr hSb
          have HX := Lib.hid hx; clear hx
          obtain ⟨mv, hmv⟩ : ∃ mv, decide ((30 : Int) < (XN : Int)) = mv := ⟨_, rfl⟩
          have hmx : decide (x.length ≤ 30) = !mv := by
            rw [← hmv, ← hxl.out]
            by_cases h : XN ≤ 30
            · rw [decide_eq_true h, decide_eq_false (by omega)]; rfl
            · rw [decide_eq_false h, decide_eq_true (by omega)]; rfl
          have HMX := Lib.hid hmx; clear hmx
          cases mv with
          | true =>
            go_wp2_with fail
            go_ret
            refine ⟨?_, hb⟩
            have hn : (t.rows.all fun l => decide (l.length ≤ 30)) = false := by
              rw [List.all_eq_false]
              exact ⟨x, List.mem_of_getElem? HX.out, by rw [HMX.out]; decide⟩
            rw [HF.out, hn]
            rfl
          | false =>
            go_wp2_with fail
            refine ⟨⟨k + 1, by omega, by go_num, fun y hy => ?_, hb, h5⟩, by simp [intOf]; omega⟩
            obtain ⟨hkl, hxk⟩ := List.getElem?_eq_some_iff.1 HX.out
            rw [List.take_succ_eq_append_getElem hkl, hxk] at hy
            rcases List.mem_append.1 hy with hy | hy
            · exact HA.out y hy
            · rw [List.mem_singleton.1 hy]; exact HMX.out
        · have hkn : k = q.2.1 := by omega
          have hall : (t.rows.all fun l => decide (l.length ≤ 30)) = true := by
            rw [List.all_eq_true]
            intro x hx
            refine HA.out x ?_
            rw [List.take_of_length_le (by have := HRL.out; omega)]
            exact hx
          rw [hall] at HF
          go_wp2_with fail
          go_ret
          exact ⟨by rw [HF.out]; rfl, hb⟩
end Go.Proofs.Sb
