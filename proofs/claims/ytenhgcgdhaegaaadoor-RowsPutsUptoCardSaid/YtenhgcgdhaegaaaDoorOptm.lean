/- Walks over option.own, depth; signalboxref04.Names, many, own, Depth. Conditions: the table of names reads as it was laid; up to a million types within one. -/
import Derived.Test.YtenhgcgdhaegaaaDoorOpts
import Derived.Test.YtenhgcgdhaegaaaDoorRole
set_option linter.unusedVariables false
set_option linter.unusedSimpArgs false
namespace Go.Proofs.Sb
open Go.RowKit _root_.Sb

set_option maxRecDepth 100000 in
theorem names4_any (w : World) : Calls Tryd.prog 91 #[] w fun e w' => ∃ g, e = .returned (.slice (some ⟨g, 0, none⟩) 21 21) ∧ w.heap.size ≤ g ∧ g < w'.heap.size ∧ (∀ i s, plainNames[i]? = some s → w'.cell? ⟨g, i, none⟩ = some (.string (str s))) ∧ Below w.heap.size w w' := by
  have key : ∀ (W : World) (t : TypeId) i s, plainNames[i]? = some s → (W.alloc (.cells (plainNames.map fun s => Value.string (str s)).toArray t)).cell? ⟨W.heap.size, i, none⟩ = some (.string (str s)) := by
    intro W t i s hi
    have e1 := heap_alloc_new W (.cells (plainNames.map fun s => Value.string (str s)).toArray t)
    unfold World.cell?
    rw [e1]
    simp [hi]
  go_enter Tryd.func91, Tryd.ntmps91
  go_wp2_with fail
  go_ret
  exact ⟨_, rfl, by simp, by simp, fun i s hi => key _ _ i s hi, (by repeat (first | exact Below.refl _ _ | assumption | refine Below.drew ?_ | refine below_drewN ?_ _ | refine Below.alloc ?_ (by first | (simp; done) | omega | (simp; omega)) _ | refine Below.setCell ?_ (by first | (simp; done) | omega | (simp; omega)) _))⟩
theorem sum_take_le {l : List Nat} {k : Nat} {x : Nat} (h : l[k]? = some x) : (l.take k).sum + x ≤ l.sum := by
  obtain ⟨hk, rfl⟩ := List.getElem?_eq_some_iff.1 h
  have e : l.take (k + 1) = l.take k ++ [l[k]] := List.take_succ_eq_append_getElem hk
  have h2 : l.sum = (l.take (k + 1)).sum + (l.drop (k + 1)).sum := by rw [← List.sum_append, List.take_append_drop]
  rw [e, List.sum_append] at h2
  simp at h2
  omega
theorem max_take {g : Opt → Nat} {l : List Opt} {k : Nat} {x : Opt} (h : l[k]? = some x) : maxL ((l.take (k + 1)).map g) = max (maxL ((l.take k).map g)) (g x) := by
  obtain ⟨hk, rfl⟩ := List.getElem?_eq_some_iff.1 h
  rw [List.take_succ_eq_append_getElem hk, List.map_append]
  exact maxL_snoc _ _
theorem max_take_bd (g : Opt → Nat) (l : List Opt) (k : Nat) : maxL ((l.take k).map g) ≤ maxL (l.map g) := maxL_bd fun x hx => by
  obtain ⟨y, hy, rfl⟩ := List.mem_map.1 hx
  exact maxL_mem (List.mem_map.2 ⟨y, List.mem_of_mem_take hy, rfl⟩)

set_option maxHeartbeats 2000000 in
set_option maxRecDepth 100000 in
theorem depth_any : ∀ (d : Nat) {S : Nat → Prop} {M : Nat} {A1 : Option Addr} {n1 c1 : Nat} {A2 : Option Addr} {n2 c2 : Nat} {o : Opt} {w : World}, OptR S w M d A1 n1 c1 A2 n2 c2 o → nD (d + 1) o ≤ 1000000 →
    Calls Tryd.prog 68 #[optV o A1 n1 c1 A2 n2 c2] w fun e w' => e = .returned (.int .i64 (depthD (d + 1) o : Nat)) ∧ Below w.heap.size w w' := by
  intro d
  induction d using Nat.strongRecOn with
  | ind d ih =>
  intro S M A1 n1 c1 A2 n2 c2 o w ho hn
  have hlen := Lib.hid ho.kids.len
  have hcap := ho.kids.cap
  have hcm := ho.kids.capMax
  have HS := Lib.hid ho.lt.kids; clear ho
  have HN := Lib.hid hn; clear hn
  have hmd : maxL (o.kids.map (depthD d)) ≤ 1000000 := by
    have h1 := depthD_nD (d + 1) o
    have := HN.out
    simp only [depthD] at h1
    omega
  go_enter Tryd.func68, Tryd.ntmps68
  go_wp2_with fail
  go_loopw [3, 9] (fun q i wr => ∃ k : Nat, k ≤ n2 ∧ i = .int .i64 (k : Nat) ∧ q = .int .i64 (maxL ((o.kids.take k).map (depthD d)) : Nat) ∧ Below w.heap.size w wr) (fun _ i _ => n2 - (intOf i).toNat)
  case atStart => exact ⟨0, by omega, rfl, rfl, (by repeat (first | exact Below.refl _ _ | assumption | refine Below.drew ?_ | refine below_drewN ?_ _ | refine Below.alloc ?_ (by first | (simp; done) | omega | (simp; omega)) _ | refine Below.setCell ?_ (by first | (simp; done) | omega | (simp; omega)) _))⟩
  case round =>
    obtain ⟨k, hk, rfl, rfl, hbel⟩ := hrel
    have hsz := hbel.size
    have hmk := max_take_bd (depthD d) o.kids k
    by_cases hlt : k < n2
    · skip
      obtain ⟨x, hx⟩ : ∃ x, o.kids[k]? = some x := ⟨_, List.getElem?_eq_getElem (by have := hlen.out; omega)⟩
      have HS1 := Lib.hid (HS.out.after hbel)
      obtain ⟨b, off, rfl, hSb, hbs, HC⟩ := HS1.out.at (by decide) (by omega)
      obtain ⟨v, hv1, hp, hv2⟩ := HC k x hx
      obtain ⟨e, B1, m1, d1, B2, m2, d2, rfl, rfl, hR⟩ := hp.open
      have hc0 := hv2 0 _ rfl
      have hc1 := hv2 1 _ rfl
      have hc2 := hv2 2 _ rfl
      have hc3 := hv2 3 _ rfl
      have hc4 := hv2 4 _ rfl
      simp only [Nat.add_zero] at hc0
      clear hv1 hv2 HC
      have HX := Lib.hid hx; clear hx
      have HR := Lib.hid hR; clear hR
      have hnx : nD (e + 1) x ≤ 1000000 := by have := nD_kid (d := e + 1) (List.mem_of_getElem? HX.out); have := HN.out; omega
      have hdx : depthD (e + 1) x ≤ 1000000 := Nat.le_trans (depthD_nD _ _) hnx
      have hmx := max_take (g := depthD (e + 1)) HX.out
      generalize maxL ((o.kids.take k).map (depthD (e + 1))) = q at *
      go_wp2_with fail
      refine (ih e (by omega) ((HR.out.after hbel).after (by repeat (first | exact Below.refl _ _ | assumption | refine Below.drew ?_ | refine below_drewN ?_ _ | refine Below.alloc ?_ (by first | (simp; done) | omega | (simp; omega)) _ | refine Below.setCell ?_ (by first | (simp; done) | omega | (simp; omega)) _))) hnx).mono ?_
      rintro e1 w1 ⟨rfl, hb1⟩
      go_wp2_with fail
      refine ⟨⟨k + 1, by omega, by go_num, ?_, seqB hbel (Below.trans (by repeat (first | exact Below.refl _ _ | assumption | refine Below.drew ?_ | refine below_drewN ?_ _ | refine Below.alloc ?_ (by first | (simp; done) | omega | (simp; omega)) _ | refine Below.setCell ?_ (by first | (simp; done) | omega | (simp; omega)) _)) (hb1.mono (by simp)))⟩, by simp [intOf]; omega⟩
      rw [hmx]
      by_cases hqx : q < depthD (e + 1) x
      · rw [if_pos hqx, Nat.max_eq_right (by omega)]
      · rw [if_neg hqx, Nat.max_eq_left (by omega)]
    · obtain rfl : k = n2 := by omega
      have h0 : o.kids.take k = o.kids := List.take_of_length_le (by have := hlen.out; omega)
      rw [h0] at hmk ⊢
      clear h0
      have hdd : depthD (d + 1) o = maxL (o.kids.map (depthD d)) + 1 := rfl
      generalize maxL (o.kids.map (depthD d)) = q at *
      go_wp2_with fail
      go_ret
      refine ⟨?_, hbel⟩
      rw [hdd]
      go_num
set_option maxHeartbeats 2000000 in
set_option maxRecDepth 100000 in
theorem depth4_any : ∀ (d : Nat) {S : Nat → Prop} {M : Nat} {A1 : Option Addr} {n1 c1 : Nat} {A2 : Option Addr} {n2 c2 : Nat} {o : Opt} {w : World}, OptR S w M d A1 n1 c1 A2 n2 c2 o → nD (d + 1) o ≤ 1000000 →
    Calls Tryd.prog 71 #[optV o A1 n1 c1 A2 n2 c2] w fun e w' => e = .returned (.int .i64 (depthD (d + 1) o : Nat)) ∧ Below w.heap.size w w' := by
  intro d
  induction d using Nat.strongRecOn with
  | ind d ih =>
  intro S M A1 n1 c1 A2 n2 c2 o w ho hn
  have hlen := Lib.hid ho.kids.len
  have hcap := ho.kids.cap
  have hcm := ho.kids.capMax
  have HS := Lib.hid ho.lt.kids; clear ho
  have HN := Lib.hid hn; clear hn
  have hmd : maxL (o.kids.map (depthD d)) ≤ 1000000 := by
    have h1 := depthD_nD (d + 1) o
    have := HN.out
    simp only [depthD] at h1
    omega
  go_enter Tryd.func71, Tryd.ntmps71
  go_wp2_with fail
  go_loopw [3, 4] (fun q i wr => ∃ k : Nat, k ≤ n2 ∧ i = .int .i64 (k : Nat) ∧ q = .int .i64 (maxL ((o.kids.take k).map (depthD d)) : Nat) ∧ Below w.heap.size w wr ∧ wr.cell? ⟨w.heap.size, 4, none⟩ = some (.slice A2 n2 c2)) (fun _ i _ => n2 - (intOf i).toNat)
  case atStart => exact ⟨0, by omega, rfl, rfl, (by repeat (first | exact Below.refl _ _ | assumption | refine Below.drew ?_ | refine below_drewN ?_ _ | refine Below.alloc ?_ (by first | (simp; done) | omega | (simp; omega)) _ | refine Below.setCell ?_ (by first | (simp; done) | omega | (simp; omega)) _)), by go_simp⟩
  case round =>
    obtain ⟨k, hk, rfl, rfl, hbel, x4⟩ := hrel
    have hsz := hbel.size
    have hmk := max_take_bd (depthD d) o.kids k
    by_cases hlt : k < n2
    · skip
      obtain ⟨x, hx⟩ : ∃ x, o.kids[k]? = some x := ⟨_, List.getElem?_eq_getElem (by have := hlen.out; omega)⟩
      have HS1 := Lib.hid (HS.out.after hbel)
      obtain ⟨b, off, rfl, hSb, hbs, HC⟩ := HS1.out.at (by decide) (by omega)
      obtain ⟨v, hv1, hp, hv2⟩ := HC k x hx
      obtain ⟨e, B1, m1, d1, B2, m2, d2, rfl, rfl, hR⟩ := hp.open
      have hc0 := hv2 0 _ rfl
      have hc1 := hv2 1 _ rfl
      have hc2 := hv2 2 _ rfl
      have hc3 := hv2 3 _ rfl
      have hc4 := hv2 4 _ rfl
      simp only [Nat.add_zero] at hc0
      clear hv1 hv2 HC
      have HX := Lib.hid hx; clear hx
      have HR := Lib.hid hR; clear hR
      have hnx : nD (e + 1) x ≤ 1000000 := by have := nD_kid (d := e + 1) (List.mem_of_getElem? HX.out); have := HN.out; omega
      have hdx : depthD (e + 1) x ≤ 1000000 := Nat.le_trans (depthD_nD _ _) hnx
      have hmx := max_take (g := depthD (e + 1)) HX.out
      generalize maxL ((o.kids.take k).map (depthD (e + 1))) = q at *
      go_wp2_with fail
      refine (ih e (by omega) ((HR.out.after hbel).after (by repeat (first | exact Below.refl _ _ | assumption | refine Below.drew ?_ | refine below_drewN ?_ _ | refine Below.alloc ?_ (by first | (simp; done) | omega | (simp; omega)) _ | refine Below.setCell ?_ (by first | (simp; done) | omega | (simp; omega)) _))) hnx).mono ?_
      rintro e1 w1 ⟨rfl, hb1⟩
      replace x4 := kcell hb1 x4
      by_cases hqx : q < depthD (e + 1) x
      · go_wp2_with fail
        refine ⟨⟨k + 1, by omega, by go_num, ?_, seqB hbel hb1, x4⟩, by simp [intOf]; omega⟩
        rw [hmx, Nat.max_eq_right (by omega)]
      · go_wp2_with fail
        refine ⟨⟨k + 1, by omega, by go_num, ?_, seqB hbel hb1, x4⟩, by simp [intOf]; omega⟩
        rw [hmx, Nat.max_eq_left (by omega)]
    · obtain rfl : k = n2 := by omega
      have h0 : o.kids.take k = o.kids := List.take_of_length_le (by have := hlen.out; omega)
      rw [h0] at hmk ⊢
      clear h0
      have hdd : depthD (d + 1) o = maxL (o.kids.map (depthD d)) + 1 := rfl
      generalize maxL (o.kids.map (depthD d)) = q at *
      go_wp2_with fail
      go_ret
      refine ⟨?_, hbel⟩
      rw [hdd]
      go_num
theorem beq_nat (a b : Nat) : ((a : Int) == (b : Int)) = decide (a = b) := by rw [Bool.eq_iff_iff]; simp; omega
theorem ownO_bad1 {o : Opt} (h : kn o.id = -2) : ownO o = false := by
  unfold ownO
  exact decide_eq_false fun h2 => h2.1 h
theorem ownO_bad2 {o : Opt} (h : 0 ≤ kn o.id) (h2 : (o.kids.length : Int) ≠ kn o.id) : ownO o = false := by
  unfold ownO
  exact decide_eq_false fun h3 => h2 (h3.2.1 h)
theorem ownO_rest {o : Opt} (h : kn o.id ≠ -2) (h2 : 0 ≤ kn o.id → (o.kids.length : Int) = kn o.id) : ownO o = decide (if o.id = 48 then o.names.length = o.kids.length else o.names.length = 0) := by
  unfold ownO
  simp only [h, ne_eq, not_false_eq_true, true_and]
  congr 1
  simp only [eq_iff_iff, and_iff_right_iff_imp]
  exact fun _ => h2
theorem kn_not48 {id : Nat} (h : 0 ≤ kn id) : ¬ id = 48 := fun e => by rw [e, kn_48] at h; omega

set_option maxHeartbeats 2000000 in
set_option maxRecDepth 100000 in
theorem own_any {S : Nat → Prop} {M d : Nat} {A1 : Option Addr} {n1 c1 : Nat} {A2 : Option Addr} {n2 c2 : Nat} {o : Opt} {w : World} (ho : OptR S w M d A1 n1 c1 A2 n2 c2 o) (hw : Pl w) :
    Calls Tryd.prog 85 #[optV o A1 n1 c1 A2 n2 c2] w fun e w' => e = .returned (.bool (ownO o)) ∧ Below w.heap.size w w' := by
  have hl1 := ho.names.len
  have hl2 := ho.kids.len
  have hid := ho.id
  have hcap1 := ho.names.cap
  have hcm1 := ho.names.capMax
  have hcap2 := ho.kids.cap
  have hcm2 := ho.kids.capMax
  clear ho
  have hr := kn_range o.id
  have HW := Lib.hid hw; clear hw
  have HL1 := Lib.hid hl1; clear hl1
  have HL2 := Lib.hid hl2; clear hl2
  have walk : ∀ (v : Int) (res : Bool), knP o.id = v → (v = 3 → res = false) → (v ≠ 3 → 0 ≤ v → (n2 : Int) ≠ v → res = false) →
      (v ≠ 3 → (0 ≤ v → (n2 : Int) = v) → o.id = 48 → res = decide (n1 = n2)) → (v ≠ 3 → (0 ≤ v → (n2 : Int) = v) → ¬ o.id = 48 → res = decide (n1 = 0)) → (v = -1 ∨ v = 0 ∨ v = 1 ∨ v = 2 ∨ v = 3) →
      Calls Tryd.prog 85 #[optV o A1 n1 c1 A2 n2 c2] w fun e w' => e = .returned (.bool res) ∧ Below w.heap.size w w' := by
    intro v res hv h1 h2 h3 h4 h5
    obtain ⟨id, sp, nm, names, kids⟩ := o
    simp only at *
    have key : ∀ (hx : v = 3 ∨ (v ≠ 3 ∧ 0 ≤ v ∧ (n2 : Int) ≠ v) ∨ (v ≠ 3 ∧ (0 ≤ v → (n2 : Int) = v) ∧ id = 48) ∨ (v ≠ 3 ∧ (0 ≤ v → (n2 : Int) = v) ∧ ¬ id = 48)), Calls Tryd.prog 85 #[optV ⟨id, sp, nm, names, kids⟩ A1 n1 c1 A2 n2 c2] w fun e w' => e = .returned (.bool res) ∧ Below w.heap.size w w' := by
      intro hx
      have H1 := Lib.hid h1; clear h1
      have H2 := Lib.hid h2; clear h2
      have H3 := Lib.hid h3; clear h3
      have H4 := Lib.hid h4; clear h4
      rcases hx with hx | ⟨x1, x2, x3⟩ | ⟨x1, x2, x3⟩ | ⟨x1, x2, x3⟩
      · obtain rfl := H1.out hx
        subst hx
        go_enter Tryd.func85, Tryd.ntmps85
        go_wp2_with fail
        refine (kids_any hid (HW.out.after (by repeat (first | exact Below.refl _ _ | assumption | refine Below.drew ?_ | refine below_drewN ?_ _ | refine Below.alloc ?_ (by first | (simp; done) | omega | (simp; omega)) _ | refine Below.setCell ?_ (by first | (simp; done) | omega | (simp; omega)) _)))).mono ?_
        rintro e w1 ⟨rfl, hb1⟩
        rw [hv]
        go_wp2_with fail
        go_ret
        exact ⟨rfl, Below.trans (by repeat (first | exact Below.refl _ _ | assumption | refine Below.drew ?_ | refine below_drewN ?_ _ | refine Below.alloc ?_ (by first | (simp; done) | omega | (simp; omega)) _ | refine Below.setCell ?_ (by first | (simp; done) | omega | (simp; omega)) _)) (hb1.mono (by simp))⟩
      · obtain rfl := H2.out x1 x2 x3
        have hne : ((n2 : Int) != v) = true := by rw [bne_iff_ne]; exact x3
        have hge : (decide (0 ≤ v)) = true := decide_eq_true x2
        have hgt : (decide (2 < v)) = false := decide_eq_false (by omega)
        go_enter Tryd.func85, Tryd.ntmps85
        go_wp2_with fail
        refine (kids_any hid (HW.out.after (by repeat (first | exact Below.refl _ _ | assumption | refine Below.drew ?_ | refine below_drewN ?_ _ | refine Below.alloc ?_ (by first | (simp; done) | omega | (simp; omega)) _ | refine Below.setCell ?_ (by first | (simp; done) | omega | (simp; omega)) _)))).mono ?_
        rintro e w1 ⟨rfl, hb1⟩
        rw [hv]
        have p4 : w1.cell? ⟨w.heap.size, 4, none⟩ = some (.slice A2 n2 c2) := kcell hb1 (by go_simp)
        replace hb1 : Below w.heap.size w w1 := Below.trans (by repeat (first | exact Below.refl _ _ | assumption | refine Below.drew ?_ | refine below_drewN ?_ _ | refine Below.alloc ?_ (by first | (simp; done) | omega | (simp; omega)) _ | refine Below.setCell ?_ (by first | (simp; done) | omega | (simp; omega)) _)) (hb1.mono (by simp))
        rcases h5 with rfl | rfl | rfl | rfl | rfl
        all_goals first | (exfalso; omega) | skip
        all_goals go_wp2_with fail
        all_goals go_ret
        all_goals exact ⟨rfl, hb1⟩
      · subst x3
        have E := Lib.hid (H3.out x1 x2 rfl)
        go_enter Tryd.func85, Tryd.ntmps85
        go_wp2_with fail
        refine (kids_any hid (HW.out.after (by repeat (first | exact Below.refl _ _ | assumption | refine Below.drew ?_ | refine below_drewN ?_ _ | refine Below.alloc ?_ (by first | (simp; done) | omega | (simp; omega)) _ | refine Below.setCell ?_ (by first | (simp; done) | omega | (simp; omega)) _)))).mono ?_
        rintro e w1 ⟨rfl, hb1⟩
        rw [hv]
        have p0 : w1.cell? ⟨w.heap.size, 0, none⟩ = some (.int .u16 ((48 : Nat))) := kcell hb1 (by go_simp)
        have p3 : w1.cell? ⟨w.heap.size, 3, none⟩ = some (.slice A1 n1 c1) := kcell hb1 (by go_simp)
        have p4 : w1.cell? ⟨w.heap.size, 4, none⟩ = some (.slice A2 n2 c2) := kcell hb1 (by go_simp)
        replace hb1 : Below w.heap.size w w1 := Below.trans (by repeat (first | exact Below.refl _ _ | assumption | refine Below.drew ?_ | refine below_drewN ?_ _ | refine Below.alloc ?_ (by first | (simp; done) | omega | (simp; omega)) _ | refine Below.setCell ?_ (by first | (simp; done) | omega | (simp; omega)) _)) (hb1.mono (by simp))
        rcases h5 with rfl | rfl | rfl | rfl | rfl
        · go_wp2_with fail
          go_ret
          exact ⟨by rw [E.out]; exact congrArg (fun b => Ending.returned (Value.bool b)) (beq_nat _ _), hb1⟩
        · obtain rfl : n2 = 0 := by have := x2 (by omega); omega
          go_wp2_with fail
          go_ret
          exact ⟨by rw [E.out]; exact congrArg (fun b => Ending.returned (Value.bool b)) (beq_nat _ _), hb1⟩
        · obtain rfl : n2 = 1 := by have := x2 (by omega); omega
          go_wp2_with fail
          go_ret
          exact ⟨by rw [E.out]; exact congrArg (fun b => Ending.returned (Value.bool b)) (beq_nat _ _), hb1⟩
        · obtain rfl : n2 = 2 := by have := x2 (by omega); omega
          go_wp2_with fail
          go_ret
          exact ⟨by rw [E.out]; exact congrArg (fun b => Ending.returned (Value.bool b)) (beq_nat _ _), hb1⟩
        · exact absurd rfl x1
      · have E := Lib.hid (H4.out x1 x2 x3)
        go_enter Tryd.func85, Tryd.ntmps85
        go_wp2_with fail
        refine (kids_any hid (HW.out.after (by repeat (first | exact Below.refl _ _ | assumption | refine Below.drew ?_ | refine below_drewN ?_ _ | refine Below.alloc ?_ (by first | (simp; done) | omega | (simp; omega)) _ | refine Below.setCell ?_ (by first | (simp; done) | omega | (simp; omega)) _)))).mono ?_
        rintro e w1 ⟨rfl, hb1⟩
        rw [hv]
        have p0 : w1.cell? ⟨w.heap.size, 0, none⟩ = some (.int .u16 ((id : Nat))) := kcell hb1 (by go_simp)
        have p3 : w1.cell? ⟨w.heap.size, 3, none⟩ = some (.slice A1 n1 c1) := kcell hb1 (by go_simp)
        have p4 : w1.cell? ⟨w.heap.size, 4, none⟩ = some (.slice A2 n2 c2) := kcell hb1 (by go_simp)
        replace hb1 : Below w.heap.size w w1 := Below.trans (by repeat (first | exact Below.refl _ _ | assumption | refine Below.drew ?_ | refine below_drewN ?_ _ | refine Below.alloc ?_ (by first | (simp; done) | omega | (simp; omega)) _ | refine Below.setCell ?_ (by first | (simp; done) | omega | (simp; omega)) _)) (hb1.mono (by simp))
        rcases h5 with rfl | rfl | rfl | rfl | rfl
        · go_wp2_with fail
          go_ret
          exact ⟨by rw [E.out]; exact congrArg (fun b => Ending.returned (Value.bool b)) (beq_nat _ _), hb1⟩
        · obtain rfl : n2 = 0 := by have := x2 (by omega); omega
          go_wp2_with fail
          go_ret
          exact ⟨by rw [E.out]; exact congrArg (fun b => Ending.returned (Value.bool b)) (beq_nat _ _), hb1⟩
        · obtain rfl : n2 = 1 := by have := x2 (by omega); omega
          go_wp2_with fail
          go_ret
          exact ⟨by rw [E.out]; exact congrArg (fun b => Ending.returned (Value.bool b)) (beq_nat _ _), hb1⟩
        · obtain rfl : n2 = 2 := by have := x2 (by omega); omega
          go_wp2_with fail
          go_ret
          exact ⟨by rw [E.out]; exact congrArg (fun b => Ending.returned (Value.bool b)) (beq_nat _ _), hb1⟩
        · exact absurd rfl x1
    refine key ?_
    by_cases x1 : v = 3
    · exact .inl x1
    · by_cases x2 : 0 ≤ v
      · by_cases x3 : (n2 : Int) = v
        · by_cases x4 : id = 48
          · exact .inr (.inr (.inl ⟨x1, fun _ => x3, x4⟩))
          · exact .inr (.inr (.inr ⟨x1, fun _ => x3, x4⟩))
        · exact .inr (.inl ⟨x1, x2, x3⟩)
      · by_cases x4 : id = 48
        · exact .inr (.inr (.inl ⟨x1, fun h => absurd h x2, x4⟩))
        · exact .inr (.inr (.inr ⟨x1, fun h => absurd h x2, x4⟩))
  refine walk _ (ownO o) rfl ?_ ?_ ?_ ?_ ?_
  · intro h
    refine ownO_bad1 ?_
    unfold knP at h
    split at h
    · assumption
    · omega
  · intro h1 h2 h3
    unfold knP at h1 h2 h3
    split at h1
    · exact absurd rfl h1
    · rename_i hne
      rw [if_neg hne] at h2 h3
      exact ownO_bad2 h2 (by have := HL2.out; omega)
  · intro h1 h2 h3
    unfold knP at h1 h2
    split at h1
    · exact absurd rfl h1
    · rename_i hne
      rw [if_neg hne] at h2
      rw [ownO_rest hne (fun h => by have := HL2.out; have := h2 h; omega)]; simp only [if_pos h3]; rw [HL1.out, HL2.out]
  · intro h1 h2 h3
    unfold knP at h1 h2
    split at h1
    · exact absurd rfl h1
    · rename_i hne
      rw [if_neg hne] at h2
      rw [ownO_rest hne (fun h => by have := HL2.out; have := h2 h; omega)]; simp only [if_neg h3]; rw [HL1.out]
  · unfold knP
    split <;> omega
end Go.Proofs.Sb
