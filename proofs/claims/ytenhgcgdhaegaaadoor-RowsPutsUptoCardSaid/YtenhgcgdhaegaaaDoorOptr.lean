/- Walks over signalboxref04.put, Put. Conditions: lengths up to 2^47. (written by gen_ref4put.py) -/
import Derived.Test.YtenhgcgdhaegaaaDoorOptk
import Derived.Test.YtenhgcgdhaegaaaDoorOptp
import Derived.Test.YtenhgcgdhaegaaaDoorRefb
set_option linter.unusedVariables false
set_option linter.unusedSimpArgs false
namespace Sb
def lO (id : Nat) (sp nm : B) : List B := if id = 48 then [sp, nm] else if id = 0 then [nm] else []
theorem lO_head (id : Nat) (sp nm : B) : putsM text (lO id sp nm) = headW id (sp, nm) := by
  unfold lO
  by_cases h : id = 48
  · subst h; rw [if_pos rfl]; exact head_48 sp nm
  · rw [if_neg h]
    unfold headW
    rw [if_neg h]
    by_cases h2 : id = 0
    · rw [if_pos h2, if_pos h2]
      simp only [putsM]
      cases text nm with
      | error e => rfl
      | ok t => simp
    · rw [if_neg h2, if_neg h2]
      rfl
theorem lO_len (id : Nat) (sp nm : B) : (lO id sp nm).length ≤ 2 := by unfold lO; repeat (first | split | simp)
end Sb
namespace Go.Proofs.Sb
open Go.RowKit _root_.Sb

/-- what signalboxref04.put does at types of less than so many levels -/
def Put4 (d : Nat) : Prop := ∀ {S : Nat → Prop} {M : Nat} {A1 : Option Addr} {n1 c1 : Nat} {A2 : Option Addr} {n2 c2 : Nat} {o : Opt} {w : World}, OptR S w M d A1 n1 c1 A2 n2 c2 o → M ≤ 9223372036854775807 → 200000 * nD (d + 1) o ≤ 140737488355328 → ∀ r, putD (d + 1) o = r → Calls Tryd.prog 72 #[optV o A1 n1 c1 A2 n2 c2] w fun e w' => ∃ A' n' c', e = .returned (.tuple #[.slice A' n' c', .int .i64 (werr r)]) ∧ Own w.heap.size w' A' n' c' (wval r) ∧ Below w.heap.size w w'
end Go.Proofs.Sb

/- Walk over signalboxref04.put, at some numbers. Conditions: lengths up to 2^47. (written by gen_ref4put.py) -/
namespace Go.Proofs.Sb
open Go.RowKit _root_.Sb

set_option maxHeartbeats 8000000 in
set_option maxRecDepth 100000 in
theorem put4_0 {d : Nat} (ih : ∀ m, m < d → Put4 m) {S : Nat → Prop} {M : Nat} {A1 : Option Addr} {n1 c1 : Nat} {A2 : Option Addr} {n2 c2 : Nat} {o : Opt} {w : World} (ho : OptR S w M d A1 n1 c1 A2 n2 c2 o) (hM : M ≤ 9223372036854775807) (hsz : 200000 * nD (d + 1) o ≤ 140737488355328) (h0 : Hid (o.id = 0)) (HOWN : Hid (ownO o = true)) (r : Wr) (hr : putD (d + 1) o = r) :
    Calls Tryd.prog 72 #[optV o A1 n1 c1 A2 n2 c2] w fun e w' => ∃ A' n' c', e = .returned (.tuple #[.slice A' n' c', .int .i64 (werr r)]) ∧ Own w.heap.size w' A' n' c' (wval r) ∧ Below w.heap.size w w' := by
  have hl1 := ho.names.len
  have hl2 := ho.kids.len
  have hid := ho.id
  have hsp := ho.space
  have hnm := ho.name
  have hcap1 := ho.names.cap
  have hcm1 := ho.names.capMax
  have hcap2 := ho.kids.cap
  have hcm2 := ho.kids.capMax
  have HZ := Lib.hid hsz; clear hsz
  have HL1 := Lib.hid hl1; clear hl1
  have HL2 := Lib.hid hl2; clear hl2
  have HR := Lib.hid hr; clear hr
  have HOR := Lib.hid ho.lt; clear ho
  go_enter Tryd.func72, Tryd.ntmps72
  go_wp2_with fail
  refine (own4_any (HOR.out.after (by repeat (first | exact Below.refl _ _ | assumption | refine Below.drew ?_ | refine below_drewN ?_ _ | refine Below.alloc ?_ (by first | (simp; done) | omega | (simp; omega)) _ | refine Below.setCell ?_ (by first | (simp; done) | omega | (simp; omega)) _)))).mono ?_
  rintro e w1 ⟨rfl, hb1⟩
  rw [HOWN.out]
  have p0 : w1.cell? ⟨w.heap.size, 0, none⟩ = some (.int .u16 (o.id : Int)) := kcell hb1 (by go_simp)
  have p1 : w1.cell? ⟨w.heap.size, 1, none⟩ = some (.string (str o.space)) := kcell hb1 (by go_simp)
  have p2 : w1.cell? ⟨w.heap.size, 2, none⟩ = some (.string (str o.name)) := kcell hb1 (by go_simp)
  have p3 : w1.cell? ⟨w.heap.size, 3, none⟩ = some (.slice A1 n1 c1) := kcell hb1 (by go_simp)
  have p4 : w1.cell? ⟨w.heap.size, 4, none⟩ = some (.slice A2 n2 c2) := kcell hb1 (by go_simp)
  have hz1 : w.heap.size < w1.heap.size := by have := hb1.size; simp at this; omega
  replace hb1 : Below w.heap.size w w1 := Below.trans (by repeat (first | exact Below.refl _ _ | assumption | refine Below.drew ?_ | refine below_drewN ?_ _ | refine Below.alloc ?_ (by first | (simp; done) | omega | (simp; omega)) _ | refine Below.setCell ?_ (by first | (simp; done) | omega | (simp; omega)) _)) (hb1.mono (by simp))
  have hnp := nD_pos (d + 1) o
  have hid2 : ((o.id : Int)).toNat = o.id := by omega
  have hge : 48 ≤ o.id → o.id = 48 ∨ o.id = 49 := fun h => by have := kn_lt (own_id HOWN.out); omega
  have HGE := Lib.hid hge; clear hge
  go_wp2_with fail
  refine (rput_any (o.id : Int) 2 _ (by omega) (by omega) (by omega) (by omega)).mono ?_
  rintro e w2 ⟨B2, m2, d2, rfl, ho2, hb2⟩
  rw [hid2] at ho2
  have r0 := kcell hb2 p0
  have r1 := kcell hb2 p1
  have r2 := kcell hb2 p2
  have hz2 := hb2.size
  obtain ⟨rt, hrt⟩ : ∃ rt, headW o.id (o.space, o.name) = rt := ⟨_, rfl⟩
  have HH := Lib.hid hrt; clear hrt
  have c0 := h0.out
  clear h0
  have c1 : ¬ o.id = 48 := by omega
  rw [c0] at r0
  go_wp2_with (first | (at_builtin; refine wpList_appA rfl tyStr _ _ rfl w2.heap.size _ _ _ ([] : List B) rfl (OwnA.nil (P := strP)) _ _ _ _ [o.name] rfl (arr_lit (P := strP) _ #[.string (str o.name)] o.name rfl ⟨rfl, by omega⟩ (by simp)) strP_one (fun _ _ _ h => h) (by omega) (by unfold maxLen; omega) (by simp; try omega) ?_; intro L mL cL wL oL gL hwL))
  have hl : lO o.id o.space o.name = [o.name] := by unfold lO; rw [if_neg c1, if_pos c0]
  rw [List.nil_append, ← hl] at oL
  have gLb : Below w2.heap.size w2 wL := below_grow (by repeat (first | exact Below.refl _ _ | assumption | refine Below.drew ?_ | refine below_drewN ?_ _ | refine Below.alloc ?_ (by first | (simp; done) | omega | (simp; omega)) _ | refine Below.setCell ?_ (by first | (simp; done) | omega | (simp; omega)) _)) gL (by simp) fun b e => by cases e
  have hbL : Below w1.heap.size w1 wL := Below.trans hb2 (gLb.mono hz2)
  have ho2L := ho2.after gLb
  have hzL := gLb.size
  have HLO := Lib.hid hl; clear hl

  have hlm := (oL.len (by decide))
  have HLM := Lib.hid hlm; clear hlm
  have hLb : ∀ b, L.map (·.block) = some b → b < wL.heap.size := fun b h => (oL.block b h).2
  have HLB := Lib.hid hLb; clear hLb
  have aL := (oL.arr (by decide)).mono (S' := fun b => L.map (·.block) = some b ∧ w2.heap.size ≤ b) fun b h _ => ⟨h.2, h.1⟩
  have AL := Lib.hid aL; clear aL
  have hcl := AL.out.cap
  have hclm := AL.out.capMax
  clear oL
  go_loopw [4, 6] (fun u i wr => ∃ k A3 m3 c3 pre, k ≤ mL ∧ i = .int .i64 (k : Nat) ∧ u = .slice A3 m3 c3 ∧ Hid (putsM text ((lO o.id o.space o.name).take k) = .ok pre) ∧ Own w1.heap.size wr A3 m3 c3 (enc 2 o.id ++ pre) ∧ Below w1.heap.size w1 wr ∧ Arr 1 strP (fun b => L.map (·.block) = some b ∧ w2.heap.size ≤ b) wr L mL cL (lO o.id o.space o.name) ∧ Hid (∀ b, L.map (·.block) = some b → w2.heap.size ≤ b → A3.map (·.block) ≠ some b) ∧ wL.heap.size ≤ wr.heap.size) (fun _ i _ => mL - (intOf i).toNat)
  case atStart => exact ⟨0, _, _, _, [], by omega, rfl, rfl, rfl, by rw [List.append_nil]; exact ho2L, hbL, AL.out, fun b _ h2 e => by have := (ho2.block b e).2; omega, Nat.le_refl _⟩
  case round =>
    obtain ⟨k, A3, m3, c3, pre, hk, rfl, rfl, HK, hown, hbr, aLr, HNE, hzl⟩ := hrel
    have hzr := hbr.size
    have hzw : w.heap.size < wr.heap.size := by omega
    by_cases hlt : k < mL
    · obtain ⟨s, hs⟩ : ∃ s, (lO o.id o.space o.name)[k]? = some s := ⟨_, List.getElem?_eq_getElem (by have := HLM.out; omega)⟩
      obtain ⟨b, off, eL, hSb, hbs, HC⟩ := aLr.at (by decide) (by omega)
      subst eL
      obtain ⟨v, hv1, ⟨rfl, hxl⟩, hv2⟩ := HC k s hs
      have hcell := hv2 0 _ rfl
      clear hv1 hv2 HC
      obtain ⟨q, hq⟩ : ∃ q, text s = q := ⟨_, rfl⟩
      have HQ := Lib.hid hq; clear hq
      have HX := Lib.hid hs; clear hs
      simp only [Nat.mul_one, Nat.add_zero] at hcell
      have HAL := Lib.hid aLr; clear aLr
      go_wp2_with fail
      refine (rtext_any s _ hxl q HQ.out).mono ?_
      rintro e w3 ⟨A4, m4, c4, rfl, ho4, hb4⟩
      have hbel2 : Below w1.heap.size w1 w3 := Below.trans hbr (hb4.mono hzr)
      cases q with
      | error e2 =>
        have hne := text_ne HQ.out
        have h0 := putsM_stop HK HX.out HQ.out
        rw [lO_head, HH.out] at h0
        subst h0
        obtain rfl := HR.out.symm.trans (putD_herr HOWN.out HH.out)
        go_wp2_with fail
        go_ret2
        exact ⟨_, _, _, rfl, Own.nil, seqB hb1 hbel2⟩
      | ok y =>
        have hown2 := hown.after hb4
        have hsz2 := hbel2.size
        have hz4 := hb4.size
        have HK2 := putsM_take HK HX.out HQ.out
        have hpl := Lib.hid (putsM_len (M := 65537) (fun x _ b hb => (text_len hb).1) HK)
        have hyl := (text_len HQ.out).1
        go_wp2_with (first | (at_builtin; refine wpList_appw rfl _ _ rfl w1.heap.size _ _ _ _ rfl hown2 _ _ _ _ y rfl ho4.sl (by have := hpl.out; have := HLM.out; have := lO_len o.id o.space o.name; rw [List.length_take] at *; rw [List.length_append, enc_length]; omega) hsz2 ?_; intro A5 m5 c5 w4 hown3 hg3 hw3))
        have hown3 := Lib.hid hown3
        have hz5 := hg3.size
        refine ⟨⟨k + 1, A5, m5, c5, pre ++ y, by omega, by go_num, rfl, HK2, by rw [← List.append_assoc]; exact hown3.out, Below.grown hbel2 hg3 hsz2 fun b e => (hown2.block b e).1, (HAL.out.after hb4).grown hg3 fun b h e => HNE.out b h.1 h.2 e.symm, fun b h1 h2 e => by rcases hw3 b e with h | h; exact HNE.out b h1 h2 h; have := HLB.out b h1; omega, by omega⟩, by simp [intOf]; omega⟩
    · obtain rfl : k = mL := by omega
      have h0 : putsM text (lO o.id o.space o.name) = .ok pre := by have := HK; rwa [List.take_of_length_le (by have := HLM.out; omega)] at this
      rw [lO_head, HH.out] at h0
      subst h0
      clear HNE aLr AL

      have q0 := kcell hbr p0
      have q4 := kcell hbr p4
      have hle : ¬ 48 ≤ o.id := fun h => by have := HGE.out h; omega
      have hcw : cntW o.id o.kids.length = [] := by unfold cntW; rw [if_neg hle]
      have HBIG : Hid (¬ (48 ≤ o.id ∧ 65535 < o.kids.length)) := fun h => hle h.1
      go_wp2_with fail
      have hownL : Own w1.heap.size wr A3 m3 c3 (enc 2 o.id ++ (pre ++ cntW o.id o.kids.length)) := own_as hown (by rw [hcw]; simp)

      have hp0 : ((enc 2 o.id ++ (pre ++ cntW o.id o.kids.length))).length ≤ 131078 := by have := headW_len HH.out; have := cntW_len o.id o.kids.length; simp only [List.length_append, enc_length, List.length_nil] at *; omega
      have HP0 := Lib.hid hp0; clear hp0
      go_loopw [4, 9] (fun u i wr => ∃ k A5 m5 c5 pw, k ≤ n2 ∧ i = .int .i64 (k : Nat) ∧ u = .slice A5 m5 c5 ∧ Hid (putsM (kidW (putD d) o.id) ((kidsO o).take k) = .ok pw) ∧ Own w1.heap.size wr A5 m5 c5 ((enc 2 o.id ++ (pre ++ cntW o.id o.kids.length)) ++ pw) ∧ Below w1.heap.size w1 wr) (fun _ i _ => n2 - (intOf i).toNat)
      case atStart => exact ⟨0, _, _, _, [], by omega, rfl, rfl, rfl, own_as hownL (by simp), hbr⟩
      case round =>
        obtain ⟨k, A5, m5, c5, pw, hk, rfl, rfl, HK, hownr, hbr⟩ := hrel
        have hzr := hbr.size
        have hzw : w.heap.size < wr.heap.size := by omega
        have hbw : Below w.heap.size w wr := seqB hb1 hbr
        have q0 := kcell hbr p0
        have q3 := kcell hbr p3
        have q4 := kcell hbr p4
        by_cases hlt : k < n2
        · obtain ⟨x, hx⟩ : ∃ x, o.kids[k]? = some x := ⟨_, List.getElem?_eq_getElem (by have := HL2.out; omega)⟩
          have HS1 := Lib.hid (HOR.out.kids.after hbw)
          obtain ⟨b, off, rfl, hSb, hbs, HC⟩ := HS1.out.at (by decide) (by omega)
          obtain ⟨v, hv1, hp, hv2⟩ := HC k x hx
          obtain ⟨e, B1, n6, d1, B4, n7, d4, rfl, rfl, hR⟩ := hp.open
          have hc0 := hv2 0 _ rfl
          have hc1 := hv2 1 _ rfl
          have hc2 := hv2 2 _ rfl
          have hc3 := hv2 3 _ rfl
          have hc4 := hv2 4 _ rfl
          simp only [Nat.add_zero] at hc0
          clear hv1 hv2 HC
          have HX := Lib.hid hx; clear hx
          have HR2 := Lib.hid hR; clear hR
          have HRM := Lib.hid (kid_room HOWN.out HK HX.out)
          obtain ⟨q, hq⟩ : ∃ q, putD (e + 1) x = q := ⟨_, rfl⟩
          have HQ := Lib.hid hq; clear hq
          have HKG := Lib.hid (kidsO_no c1 HX.out)
          go_wp2_with fail
          refine (ih e (by omega) (HR2.out.after hbw) hM (by have := HZ.out; have := nD_kid (d := e + 1) (List.mem_of_getElem? HX.out); omega) q HQ.out).mono ?_
          rintro e3 w9 ⟨A9, m9, c9, rfl, ho9, hb9⟩
          have hb19 : Below w1.heap.size w1 w9 := Below.trans hbr (hb9.mono (by omega))
          have hown9 := hownr.after hb9
          have hz9 := hb9.size
          clear q0 q3 q4 hc0 hc1 hc2 hc3 hc4
          cases q with
          | error eq =>
            have hne : eq ≠ 0 := putD_ne HQ.out
            have h0 := putsM_stop HK HKG.out (by unfold kidW nameW; rw [if_neg c1, HQ.out]; rfl : kidW (putD (e + 1)) o.id ([], x) = .error eq)
            obtain rfl := HR.out.symm.trans (putD_kerr HOWN.out HH.out HBIG.out h0)
            go_wp2_with fail
            go_ret2
            exact ⟨_, _, _, rfl, Own.nil, seqB hb1 hb19⟩
          | ok y =>
            have hyl := Lib.hid (putD_len HQ.out)
            have HK2 := putsM_take HK HKG.out (by unfold kidW nameW; rw [if_neg c1, HQ.out]; rfl : kidW (putD (e + 1)) o.id ([], x) = .ok y)
            go_wp2_with (first | (at_builtin; refine wpList_appw rfl _ _ rfl w1.heap.size _ _ _ _ rfl hown9 _ _ _ _ y rfl ho9.sl (by have := HZ.out; have := HRM.out; have := HP0.out; have := hyl.out; simp only [List.length_append] at *; omega) (by omega) ?_; intro A10 m10 c10 w10 hown10 hg10 hw10))
            have HO10 := Lib.hid hown10; clear hown10
            have hown12 : Own w1.heap.size w10 A10 m10 c10 (enc 2 o.id ++ (pre ++ cntW o.id o.kids.length) ++ (pw ++ y)) := own_as HO10.out (by simp)
            have hbel12 : Below w1.heap.size w1 w10 := Below.grown hb19 hg10 (by omega) fun b e => (hownr.block b e).1
            first
              | exact ⟨⟨_, _, _, _, ⟨k + 1, by omega, by go_num, A10, m10, c10, rfl, pw ++ y, HK2, own_as hown12 (by first | (simp; done) | simp [hcw]), hbel12⟩, rfl, rfl, rfl, rfl⟩, by simp [intOf]; omega⟩
              | exact ⟨⟨_, _, _, _, ⟨k + 1, A10, m10, c10, pw ++ y, by omega, by go_num, rfl, HK2, own_as hown12 (by first | (simp; done) | simp [hcw]), hbel12⟩, rfl, rfl, rfl, rfl⟩, by simp [intOf]; omega⟩
              | exact ⟨⟨k + 1, A10, m10, c10, pw ++ y, by omega, by go_num, rfl, HK2, own_as hown12 (by first | (simp; done) | simp [hcw]), hbel12⟩, by simp [intOf]; omega⟩
        · obtain rfl : k = n2 := by omega
          have h0 : putsM (kidW (putD d) o.id) (kidsO o) = .ok pw := by have := HK; rwa [List.take_of_length_le (by have := HL2.out; rw [kidsO_len HOWN.out]; omega)] at this
          obtain rfl := HR.out.symm.trans (putD_kok HOWN.out HH.out HBIG.out h0)
          go_wp2_with fail
          go_ret2
          exact ⟨_, _, _, rfl, own_as (hownr.mono (by omega)) (by simp), hbw⟩
end Go.Proofs.Sb

/- Walk over signalboxref04.put, at some numbers. Conditions: lengths up to 2^47. (written by gen_ref4put.py) -/
namespace Go.Proofs.Sb
open Go.RowKit _root_.Sb

set_option maxHeartbeats 8000000 in
set_option maxRecDepth 100000 in
theorem put4_48 {d : Nat} (ih : ∀ m, m < d → Put4 m) {S : Nat → Prop} {M : Nat} {A1 : Option Addr} {n1 c1 : Nat} {A2 : Option Addr} {n2 c2 : Nat} {o : Opt} {w : World} (ho : OptR S w M d A1 n1 c1 A2 n2 c2 o) (hM : M ≤ 9223372036854775807) (hsz : 200000 * nD (d + 1) o ≤ 140737488355328) (h48 : Hid (o.id = 48)) (HOWN : Hid (ownO o = true)) (r : Wr) (hr : putD (d + 1) o = r) :
    Calls Tryd.prog 72 #[optV o A1 n1 c1 A2 n2 c2] w fun e w' => ∃ A' n' c', e = .returned (.tuple #[.slice A' n' c', .int .i64 (werr r)]) ∧ Own w.heap.size w' A' n' c' (wval r) ∧ Below w.heap.size w w' := by
  have hl1 := ho.names.len
  have hl2 := ho.kids.len
  have hid := ho.id
  have hsp := ho.space
  have hnm := ho.name
  have hcap1 := ho.names.cap
  have hcm1 := ho.names.capMax
  have hcap2 := ho.kids.cap
  have hcm2 := ho.kids.capMax
  have HZ := Lib.hid hsz; clear hsz
  have HL1 := Lib.hid hl1; clear hl1
  have HL2 := Lib.hid hl2; clear hl2
  have HR := Lib.hid hr; clear hr
  have HOR := Lib.hid ho.lt; clear ho
  go_enter Tryd.func72, Tryd.ntmps72
  go_wp2_with fail
  refine (own4_any (HOR.out.after (by repeat (first | exact Below.refl _ _ | assumption | refine Below.drew ?_ | refine below_drewN ?_ _ | refine Below.alloc ?_ (by first | (simp; done) | omega | (simp; omega)) _ | refine Below.setCell ?_ (by first | (simp; done) | omega | (simp; omega)) _)))).mono ?_
  rintro e w1 ⟨rfl, hb1⟩
  rw [HOWN.out]
  have p0 : w1.cell? ⟨w.heap.size, 0, none⟩ = some (.int .u16 (o.id : Int)) := kcell hb1 (by go_simp)
  have p1 : w1.cell? ⟨w.heap.size, 1, none⟩ = some (.string (str o.space)) := kcell hb1 (by go_simp)
  have p2 : w1.cell? ⟨w.heap.size, 2, none⟩ = some (.string (str o.name)) := kcell hb1 (by go_simp)
  have p3 : w1.cell? ⟨w.heap.size, 3, none⟩ = some (.slice A1 n1 c1) := kcell hb1 (by go_simp)
  have p4 : w1.cell? ⟨w.heap.size, 4, none⟩ = some (.slice A2 n2 c2) := kcell hb1 (by go_simp)
  have hz1 : w.heap.size < w1.heap.size := by have := hb1.size; simp at this; omega
  replace hb1 : Below w.heap.size w w1 := Below.trans (by repeat (first | exact Below.refl _ _ | assumption | refine Below.drew ?_ | refine below_drewN ?_ _ | refine Below.alloc ?_ (by first | (simp; done) | omega | (simp; omega)) _ | refine Below.setCell ?_ (by first | (simp; done) | omega | (simp; omega)) _)) (hb1.mono (by simp))
  have hnp := nD_pos (d + 1) o
  have hid2 : ((o.id : Int)).toNat = o.id := by omega
  have hge : 48 ≤ o.id → o.id = 48 ∨ o.id = 49 := fun h => by have := kn_lt (own_id HOWN.out); omega
  have HGE := Lib.hid hge; clear hge
  go_wp2_with fail
  refine (rput_any (o.id : Int) 2 _ (by omega) (by omega) (by omega) (by omega)).mono ?_
  rintro e w2 ⟨B2, m2, d2, rfl, ho2, hb2⟩
  rw [hid2] at ho2
  have r0 := kcell hb2 p0
  have r1 := kcell hb2 p1
  have r2 := kcell hb2 p2
  have hz2 := hb2.size
  obtain ⟨rt, hrt⟩ : ∃ rt, headW o.id (o.space, o.name) = rt := ⟨_, rfl⟩
  have HH := Lib.hid hrt; clear hrt
  have c1 := h48.out
  clear h48
  rw [c1] at r0
  go_wp2_with (first | (at_builtin; refine wpList_appA rfl tyStr _ _ rfl w2.heap.size _ _ _ ([] : List B) rfl (OwnA.nil (P := strP)) _ _ _ _ [o.space] rfl (arr_lit (P := strP) _ #[.string (str o.space)] o.space rfl ⟨rfl, by omega⟩ (by simp)) strP_one (fun _ _ _ h => h) (by omega) (by unfold maxLen; omega) (by simp; try omega) ?_; intro L mL cL wL oL gL hwL; have gLb : Below w2.heap.size w2 wL := below_grow (by repeat (first | exact Below.refl _ _ | assumption | refine Below.drew ?_ | refine below_drewN ?_ _ | refine Below.alloc ?_ (by first | (simp; done) | omega | (simp; omega)) _ | refine Below.setCell ?_ (by first | (simp; done) | omega | (simp; omega)) _)) gL (by simp) fun b e => (by cases e); replace r0 := kcell gLb r0; replace r2 := kcell gLb r2; have hzL0 := gLb.size; have hmL : mL ≤ 1 := by (have := oL.len (by decide); simp at this; omega)) | (at_builtin; refine wpList_appA rfl tyStr _ _ rfl w2.heap.size _ _ _ [o.space] rfl (oL.after (by repeat (first | exact Below.refl _ _ | assumption | refine Below.drew ?_ | refine below_drewN ?_ _ | refine Below.alloc ?_ (by first | (simp; done) | omega | (simp; omega)) _ | refine Below.setCell ?_ (by first | (simp; done) | omega | (simp; omega)) _))) _ _ _ _ [o.name] rfl (arr_lit (P := strP) _ #[.string (str o.name)] o.name rfl ⟨rfl, by omega⟩ (by simp)) strP_one (fun _ _ _ h => h) (by omega) (by unfold maxLen; omega) (by simp; try omega) ?_; intro L2 mL2 cL2 wL2 oL2 gL2 hwL2))
  have gLb2 : Below w2.heap.size w2 wL2 := below_grow (Below.trans gLb (by repeat (first | exact Below.refl _ _ | assumption | refine Below.drew ?_ | refine below_drewN ?_ _ | refine Below.alloc ?_ (by first | (simp; done) | omega | (simp; omega)) _ | refine Below.setCell ?_ (by first | (simp; done) | omega | (simp; omega)) _))) gL2 (by have := gLb.size; simp; omega) fun b e => (oL.block b e).1
  have hl : lO o.id o.space o.name = [o.space, o.name] := by unfold lO; rw [if_pos c1]
  replace oL2 : OwnA 9 1 strP w2.heap.size wL2 L2 mL2 cL2 (lO o.id o.space o.name) := by rw [hl]; exact oL2
  have hbL : Below w1.heap.size w1 wL2 := Below.trans hb2 (gLb2.mono hz2)
  have ho2L := ho2.after gLb2
  have hzL := gLb2.size
  have HLO := Lib.hid hl; clear hl
  clear oL gL gL2 hwL hwL2 hmL
  have oL := oL2
  clear oL2

  have hlm := (oL.len (by decide))
  have HLM := Lib.hid hlm; clear hlm
  have hLb : ∀ b, L2.map (·.block) = some b → b < wL2.heap.size := fun b h => (oL.block b h).2
  have HLB := Lib.hid hLb; clear hLb
  have aL := (oL.arr (by decide)).mono (S' := fun b => L2.map (·.block) = some b ∧ w2.heap.size ≤ b) fun b h _ => ⟨h.2, h.1⟩
  have AL := Lib.hid aL; clear aL
  have hcl := AL.out.cap
  have hclm := AL.out.capMax
  clear oL
  go_loopw [4, 6] (fun u i wr => ∃ k A3 m3 c3 pre, k ≤ mL2 ∧ i = .int .i64 (k : Nat) ∧ u = .slice A3 m3 c3 ∧ Hid (putsM text ((lO o.id o.space o.name).take k) = .ok pre) ∧ Own w1.heap.size wr A3 m3 c3 (enc 2 o.id ++ pre) ∧ Below w1.heap.size w1 wr ∧ Arr 1 strP (fun b => L2.map (·.block) = some b ∧ w2.heap.size ≤ b) wr L2 mL2 cL2 (lO o.id o.space o.name) ∧ Hid (∀ b, L2.map (·.block) = some b → w2.heap.size ≤ b → A3.map (·.block) ≠ some b) ∧ wL2.heap.size ≤ wr.heap.size) (fun _ i _ => mL2 - (intOf i).toNat)
  case atStart => exact ⟨0, _, _, _, [], by omega, rfl, rfl, rfl, by rw [List.append_nil]; exact ho2L, hbL, AL.out, fun b _ h2 e => by have := (ho2.block b e).2; omega, Nat.le_refl _⟩
  case round =>
    obtain ⟨k, A3, m3, c3, pre, hk, rfl, rfl, HK, hown, hbr, aLr, HNE, hzl⟩ := hrel
    have hzr := hbr.size
    have hzw : w.heap.size < wr.heap.size := by omega
    by_cases hlt : k < mL2
    · obtain ⟨s, hs⟩ : ∃ s, (lO o.id o.space o.name)[k]? = some s := ⟨_, List.getElem?_eq_getElem (by have := HLM.out; omega)⟩
      obtain ⟨b, off, eL, hSb, hbs, HC⟩ := aLr.at (by decide) (by omega)
      subst eL
      obtain ⟨v, hv1, ⟨rfl, hxl⟩, hv2⟩ := HC k s hs
      have hcell := hv2 0 _ rfl
      clear hv1 hv2 HC
      obtain ⟨q, hq⟩ : ∃ q, text s = q := ⟨_, rfl⟩
      have HQ := Lib.hid hq; clear hq
      have HX := Lib.hid hs; clear hs
      simp only [Nat.mul_one, Nat.add_zero] at hcell
      have HAL := Lib.hid aLr; clear aLr
      go_wp2_with fail
      refine (rtext_any s _ hxl q HQ.out).mono ?_
      rintro e w3 ⟨A4, m4, c4, rfl, ho4, hb4⟩
      have hbel2 : Below w1.heap.size w1 w3 := Below.trans hbr (hb4.mono hzr)
      cases q with
      | error e2 =>
        have hne := text_ne HQ.out
        have h0 := putsM_stop HK HX.out HQ.out
        rw [lO_head, HH.out] at h0
        subst h0
        obtain rfl := HR.out.symm.trans (putD_herr HOWN.out HH.out)
        go_wp2_with fail
        go_ret2
        exact ⟨_, _, _, rfl, Own.nil, seqB hb1 hbel2⟩
      | ok y =>
        have hown2 := hown.after hb4
        have hsz2 := hbel2.size
        have hz4 := hb4.size
        have HK2 := putsM_take HK HX.out HQ.out
        have hpl := Lib.hid (putsM_len (M := 65537) (fun x _ b hb => (text_len hb).1) HK)
        have hyl := (text_len HQ.out).1
        go_wp2_with (first | (at_builtin; refine wpList_appw rfl _ _ rfl w1.heap.size _ _ _ _ rfl hown2 _ _ _ _ y rfl ho4.sl (by have := hpl.out; have := HLM.out; have := lO_len o.id o.space o.name; rw [List.length_take] at *; rw [List.length_append, enc_length]; omega) hsz2 ?_; intro A5 m5 c5 w4 hown3 hg3 hw3))
        have hown3 := Lib.hid hown3
        have hz5 := hg3.size
        refine ⟨⟨k + 1, A5, m5, c5, pre ++ y, by omega, by go_num, rfl, HK2, by rw [← List.append_assoc]; exact hown3.out, Below.grown hbel2 hg3 hsz2 fun b e => (hown2.block b e).1, (HAL.out.after hb4).grown hg3 fun b h e => HNE.out b h.1 h.2 e.symm, fun b h1 h2 e => by rcases hw3 b e with h | h; exact HNE.out b h1 h2 h; have := HLB.out b h1; omega, by omega⟩, by simp [intOf]; omega⟩
    · obtain rfl : k = mL2 := by omega
      have h0 : putsM text (lO o.id o.space o.name) = .ok pre := by have := HK; rwa [List.take_of_length_le (by have := HLM.out; omega)] at this
      rw [lO_head, HH.out] at h0
      subst h0
      clear HNE aLr AL

      have q0 := kcell hbr p0
      have q4 := kcell hbr p4
      have hcw : cntW o.id o.kids.length = enc 2 o.kids.length := by unfold cntW; rw [if_pos (by omega)]
      by_cases cb : 65535 < n2
      · obtain rfl := HR.out.symm.trans (putD_big HOWN.out HH.out ⟨by omega, by have := HL2.out; omega⟩)
        go_wp2_with fail
        go_ret2
        exact ⟨_, _, _, rfl, Own.nil, seqB hb1 hbr⟩
      · have HBIG : Hid (¬ (48 ≤ o.id ∧ 65535 < o.kids.length)) := fun h => by have := HL2.out; omega
        go_wp2_with fail
        refine (rput_any (n2 : Int) 2 _ (by omega) (by omega) (by omega) (by omega)).mono ?_
        rintro e w5 ⟨B5, m5, d5, rfl, ho5, hb5⟩
        have hown5 := hown.after hb5
        have hz5 := hb5.size
        have hn5 : ((n2 : Int)).toNat = o.kids.length := by have := HL2.out; omega
        rw [hn5] at ho5
        have hb15 : Below w1.heap.size w1 w5 := Below.trans hbr (hb5.mono hzr)
        clear q0 q4
        go_wp2_with (first | (at_builtin; refine wpList_appw rfl _ _ rfl w1.heap.size _ _ _ _ rfl hown5 _ _ _ _ _ rfl ho5.sl (by have := headW_len HH.out; simp only [List.length_append, enc_length] at *; omega) (by omega) ?_; intro A6 m6 c6 w6 hown6 hg6 hw6))
        have hb16 : Below w1.heap.size w1 w6 := Below.grown hb15 hg6 (by omega) fun b e => (hown.block b e).1
        have hz6 := hg6.size
        have hownL : Own w1.heap.size w6 A6 m6 c6 (enc 2 o.id ++ (pre ++ cntW o.id o.kids.length)) := own_as hown6 (by rw [hcw]; simp)
        have hp0 : ((enc 2 o.id ++ (pre ++ cntW o.id o.kids.length))).length ≤ 131078 := by have := headW_len HH.out; have := cntW_len o.id o.kids.length; simp only [List.length_append, enc_length, List.length_nil] at *; omega
        have HP0 := Lib.hid hp0; clear hp0
        go_loopw [4, 9] (fun u i wr => ∃ k A5 m5 c5 pw, k ≤ n2 ∧ i = .int .i64 (k : Nat) ∧ u = .slice A5 m5 c5 ∧ Hid (putsM (kidW (putD d) o.id) ((kidsO o).take k) = .ok pw) ∧ Own w1.heap.size wr A5 m5 c5 ((enc 2 o.id ++ (pre ++ cntW o.id o.kids.length)) ++ pw) ∧ Below w1.heap.size w1 wr) (fun _ i _ => n2 - (intOf i).toNat)
        case atStart => exact ⟨0, _, _, _, [], by omega, rfl, rfl, rfl, own_as hownL (by simp), hb16⟩
        case round =>
          obtain ⟨k, A5, m5, c5, pw, hk, rfl, rfl, HK, hownr, hbr⟩ := hrel
          have hzr := hbr.size
          have hzw : w.heap.size < wr.heap.size := by omega
          have hbw : Below w.heap.size w wr := seqB hb1 hbr
          have q0 := kcell hbr p0
          have q3 := kcell hbr p3
          have q4 := kcell hbr p4
          by_cases hlt : k < n2
          · obtain ⟨x, hx⟩ : ∃ x, o.kids[k]? = some x := ⟨_, List.getElem?_eq_getElem (by have := HL2.out; omega)⟩
            have HS1 := Lib.hid (HOR.out.kids.after hbw)
            obtain ⟨b, off, rfl, hSb, hbs, HC⟩ := HS1.out.at (by decide) (by omega)
            obtain ⟨v, hv1, hp, hv2⟩ := HC k x hx
            obtain ⟨e, B1, n6, d1, B4, n7, d4, rfl, rfl, hR⟩ := hp.open
            have hc0 := hv2 0 _ rfl
            have hc1 := hv2 1 _ rfl
            have hc2 := hv2 2 _ rfl
            have hc3 := hv2 3 _ rfl
            have hc4 := hv2 4 _ rfl
            simp only [Nat.add_zero] at hc0
            clear hv1 hv2 HC
            have HX := Lib.hid hx; clear hx
            have HR2 := Lib.hid hR; clear hR
            have HRM := Lib.hid (kid_room HOWN.out HK HX.out)
            obtain ⟨q, hq⟩ : ∃ q, putD (e + 1) x = q := ⟨_, rfl⟩
            have HQ := Lib.hid hq; clear hq
            obtain ⟨s, hs⟩ : ∃ s, o.names[k]? = some s := ⟨_, List.getElem?_eq_getElem (by have := HL2.out; have := own_48 HOWN.out c1; omega)⟩
            have hlt1 : k < n1 := by have := HL2.out; have := HL1.out; have := own_48 HOWN.out c1; omega
            have HS2 := Lib.hid (HOR.out.names.after hbw)
            obtain ⟨b2, off2, rfl, hSb2, hbs2, HC2⟩ := HS2.out.at (by decide) (by omega)
            obtain ⟨v2, hv3, ⟨rfl, hsl⟩, hv4⟩ := HC2 k s hs
            have hcn := hv4 0 _ rfl
            simp only [Nat.mul_one, Nat.add_zero] at hcn
            clear hv3 hv4 HC2
            have HKG := Lib.hid (kidsO_48 c1 hs HX.out); clear hs
            obtain ⟨rs, hrs⟩ : ∃ rs, text s = rs := ⟨_, rfl⟩
            have HRS := Lib.hid hrs; clear hrs
            go_wp2_with fail
            refine (rtext_any s _ hsl rs HRS.out).mono ?_
            rintro e2 w7 ⟨A7, m7, c7, rfl, ho7, hb7⟩
            have hb17 : Below w1.heap.size w1 w7 := Below.trans hbr (hb7.mono hzr)
            have hz7 := hb7.size
            cases rs with
            | error es =>
              have hne : es ≠ 0 := text_ne HRS.out
              have h0 := putsM_stop HK HKG.out (by unfold kidW nameW; rw [if_pos c1, HRS.out]; rfl : kidW (putD (e + 1)) o.id (s, x) = .error es)
              obtain rfl := HR.out.symm.trans (putD_kerr HOWN.out HH.out HBIG.out h0)
              go_wp2_with fail
              go_ret2
              exact ⟨_, _, _, rfl, Own.nil, seqB hb1 hb17⟩
            | ok t =>
              have htl := (text_len HRS.out).1
              have hown7 := hownr.after hb7
              replace q4 := kcell hb7 q4
              replace hc0 := kcell hb7 hc0
              replace hc1 := kcell hb7 hc1
              replace hc2 := kcell hb7 hc2
              replace hc3 := kcell hb7 hc3
              replace hc4 := kcell hb7 hc4
              have hne4 : A5.map (·.block) ≠ some w.heap.size := fun e => by have := (hownr.block _ e).1; omega
              have hneb : A5.map (·.block) ≠ some b := fun e => by have := (hownr.block _ e).1; have := hSb.2; omega
              have HN4 := Lib.hid hne4; clear hne4
              have HNB := Lib.hid hneb; clear hneb
              go_wp2_with (first | (at_builtin; refine wpList_appw rfl _ _ rfl w1.heap.size _ _ _ _ rfl hown7 _ _ _ _ t rfl ho7.sl (by have := HZ.out; have := HRM.out; have := HP0.out; simp only [List.length_append] at *; omega) (by omega) ?_; intro A8 m8 c8 w8 hown8 hg8 hw8; replace q4 := gcx hg8 HN4.out q4; replace hc0 := gcx hg8 HNB.out hc0; replace hc1 := gcx hg8 HNB.out hc1; replace hc2 := gcx hg8 HNB.out hc2; replace hc3 := gcx hg8 HNB.out hc3; replace hc4 := gcx hg8 HNB.out hc4))
              have hb18 : Below w1.heap.size w1 w8 := Below.grown hb17 hg8 (by omega) fun b e => (hownr.block b e).1
              have hz8 := hg8.size
              refine (ih e (by omega) (HR2.out.after (seqB hb1 hb18)) hM (by have := HZ.out; have := nD_kid (d := e + 1) (List.mem_of_getElem? HX.out); omega) q HQ.out).mono ?_
              rintro e3 w9 ⟨A9, m9, c9, rfl, ho9, hb9⟩
              have hb19 : Below w1.heap.size w1 w9 := Below.trans hb18 (hb9.mono (by omega))
              have hown9 := hown8.after hb9
              have hz9 := hb9.size
              clear q0 q3 q4 hc0 hc1 hc2 hc3 hc4 hcn
              cases q with
              | error eq =>
                have hne : eq ≠ 0 := putD_ne HQ.out
                have h0 := putsM_stop HK HKG.out (by unfold kidW nameW; rw [if_pos c1, HRS.out, HQ.out]; rfl : kidW (putD (e + 1)) o.id (s, x) = .error eq)
                obtain rfl := HR.out.symm.trans (putD_kerr HOWN.out HH.out HBIG.out h0)
                go_wp2_with fail
                go_ret2
                exact ⟨_, _, _, rfl, Own.nil, seqB hb1 hb19⟩
              | ok y =>
                have hyl := Lib.hid (putD_len HQ.out)
                have HK2 := putsM_take HK HKG.out (by unfold kidW nameW; rw [if_pos c1, HRS.out, HQ.out]; rfl : kidW (putD (e + 1)) o.id (s, x) = .ok (t ++ y))
                go_wp2_with (first | (at_builtin; refine wpList_appw rfl _ _ rfl w1.heap.size _ _ _ _ rfl hown9 _ _ _ _ y rfl ho9.sl (by have := HZ.out; have := HRM.out; have := HP0.out; have := hyl.out; simp only [List.length_append] at *; omega) (by omega) ?_; intro A10 m10 c10 w10 hown10 hg10 hw10))
                have HO10 := Lib.hid hown10; clear hown10
                have hown12 : Own w1.heap.size w10 A10 m10 c10 (enc 2 o.id ++ (pre ++ cntW o.id o.kids.length) ++ (pw ++ (t ++ y))) := own_as HO10.out (by simp)
                have hbel12 : Below w1.heap.size w1 w10 := Below.grown hb19 hg10 (by omega) fun b e => (hown8.block b e).1
                first
                  | exact ⟨⟨_, _, _, _, ⟨k + 1, by omega, by go_num, A10, m10, c10, rfl, pw ++ (t ++ y), HK2, own_as hown12 (by first | (simp; done) | simp [hcw]), hbel12⟩, rfl, rfl, rfl, rfl⟩, by simp [intOf]; omega⟩
                  | exact ⟨⟨_, _, _, _, ⟨k + 1, A10, m10, c10, pw ++ (t ++ y), by omega, by go_num, rfl, HK2, own_as hown12 (by first | (simp; done) | simp [hcw]), hbel12⟩, rfl, rfl, rfl, rfl⟩, by simp [intOf]; omega⟩
                  | exact ⟨⟨k + 1, A10, m10, c10, pw ++ (t ++ y), by omega, by go_num, rfl, HK2, own_as hown12 (by first | (simp; done) | simp [hcw]), hbel12⟩, by simp [intOf]; omega⟩
          · obtain rfl : k = n2 := by omega
            have h0 : putsM (kidW (putD d) o.id) (kidsO o) = .ok pw := by have := HK; rwa [List.take_of_length_le (by have := HL2.out; rw [kidsO_len HOWN.out]; omega)] at this
            obtain rfl := HR.out.symm.trans (putD_kok HOWN.out HH.out HBIG.out h0)
            go_wp2_with fail
            go_ret2
            exact ⟨_, _, _, rfl, own_as (hownr.mono (by omega)) (by simp), hbw⟩
end Go.Proofs.Sb

/- Walk over signalboxref04.put, at some numbers. Conditions: lengths up to 2^47. (written by gen_ref4put.py) -/
namespace Go.Proofs.Sb
open Go.RowKit _root_.Sb

set_option maxHeartbeats 8000000 in
set_option maxRecDepth 100000 in
theorem put4_49 {d : Nat} (ih : ∀ m, m < d → Put4 m) {S : Nat → Prop} {M : Nat} {A1 : Option Addr} {n1 c1 : Nat} {A2 : Option Addr} {n2 c2 : Nat} {o : Opt} {w : World} (ho : OptR S w M d A1 n1 c1 A2 n2 c2 o) (hM : M ≤ 9223372036854775807) (hsz : 200000 * nD (d + 1) o ≤ 140737488355328) (h49 : Hid (o.id = 49)) (HOWN : Hid (ownO o = true)) (r : Wr) (hr : putD (d + 1) o = r) :
    Calls Tryd.prog 72 #[optV o A1 n1 c1 A2 n2 c2] w fun e w' => ∃ A' n' c', e = .returned (.tuple #[.slice A' n' c', .int .i64 (werr r)]) ∧ Own w.heap.size w' A' n' c' (wval r) ∧ Below w.heap.size w w' := by
  have hl1 := ho.names.len
  have hl2 := ho.kids.len
  have hid := ho.id
  have hsp := ho.space
  have hnm := ho.name
  have hcap1 := ho.names.cap
  have hcm1 := ho.names.capMax
  have hcap2 := ho.kids.cap
  have hcm2 := ho.kids.capMax
  have HZ := Lib.hid hsz; clear hsz
  have HL1 := Lib.hid hl1; clear hl1
  have HL2 := Lib.hid hl2; clear hl2
  have HR := Lib.hid hr; clear hr
  have HOR := Lib.hid ho.lt; clear ho
  go_enter Tryd.func72, Tryd.ntmps72
  go_wp2_with fail
  refine (own4_any (HOR.out.after (by repeat (first | exact Below.refl _ _ | assumption | refine Below.drew ?_ | refine below_drewN ?_ _ | refine Below.alloc ?_ (by first | (simp; done) | omega | (simp; omega)) _ | refine Below.setCell ?_ (by first | (simp; done) | omega | (simp; omega)) _)))).mono ?_
  rintro e w1 ⟨rfl, hb1⟩
  rw [HOWN.out]
  have p0 : w1.cell? ⟨w.heap.size, 0, none⟩ = some (.int .u16 (o.id : Int)) := kcell hb1 (by go_simp)
  have p1 : w1.cell? ⟨w.heap.size, 1, none⟩ = some (.string (str o.space)) := kcell hb1 (by go_simp)
  have p2 : w1.cell? ⟨w.heap.size, 2, none⟩ = some (.string (str o.name)) := kcell hb1 (by go_simp)
  have p3 : w1.cell? ⟨w.heap.size, 3, none⟩ = some (.slice A1 n1 c1) := kcell hb1 (by go_simp)
  have p4 : w1.cell? ⟨w.heap.size, 4, none⟩ = some (.slice A2 n2 c2) := kcell hb1 (by go_simp)
  have hz1 : w.heap.size < w1.heap.size := by have := hb1.size; simp at this; omega
  replace hb1 : Below w.heap.size w w1 := Below.trans (by repeat (first | exact Below.refl _ _ | assumption | refine Below.drew ?_ | refine below_drewN ?_ _ | refine Below.alloc ?_ (by first | (simp; done) | omega | (simp; omega)) _ | refine Below.setCell ?_ (by first | (simp; done) | omega | (simp; omega)) _)) (hb1.mono (by simp))
  have hnp := nD_pos (d + 1) o
  have hid2 : ((o.id : Int)).toNat = o.id := by omega
  have hge : 48 ≤ o.id → o.id = 48 ∨ o.id = 49 := fun h => by have := kn_lt (own_id HOWN.out); omega
  have HGE := Lib.hid hge; clear hge
  go_wp2_with fail
  refine (rput_any (o.id : Int) 2 _ (by omega) (by omega) (by omega) (by omega)).mono ?_
  rintro e w2 ⟨B2, m2, d2, rfl, ho2, hb2⟩
  rw [hid2] at ho2
  have r0 := kcell hb2 p0
  have r1 := kcell hb2 p1
  have r2 := kcell hb2 p2
  have hz2 := hb2.size
  obtain ⟨rt, hrt⟩ : ∃ rt, headW o.id (o.space, o.name) = rt := ⟨_, rfl⟩
  have HH := Lib.hid hrt; clear hrt
  have c2 := h49.out
  clear h49
  have c0 : ¬ o.id = 0 := by omega
  have c1 : ¬ o.id = 48 := by omega
  obtain ⟨pre, rfl⟩ : ∃ pre : B, rt = .ok pre := ⟨[], HH.out.symm.trans (head_no c1 c0)⟩
  have hpe : pre = [] := by have := HH.out.symm.trans (head_no c1 c0); injection this
  have hown : Own w1.heap.size w2 B2 m2 d2 (enc 2 o.id ++ pre) := own_as ho2 (by rw [hpe]; simp)
  clear hpe
  have hbr := hb2
  have hzr := hbr.size
  rw [c2] at r0
  go_wp2_with fail
  go_loopw [4, 6] (fun u i wr => u = .slice B2 m2 d2 ∧ i = .int .i64 0 ∧ w2 = wr) (fun _ _ _ => 0)
  case atStart => exact ⟨rfl, rfl, rfl⟩
  case round =>
    obtain ⟨rfl, rfl, hwr⟩ := hrel
    subst hwr
    have q0 := kcell hbr p0
    have q4 := kcell hbr p4
    have hcw : cntW o.id o.kids.length = enc 2 o.kids.length := by unfold cntW; rw [if_pos (by omega)]
    by_cases cb : 65535 < n2
    · obtain rfl := HR.out.symm.trans (putD_big HOWN.out HH.out ⟨by omega, by have := HL2.out; omega⟩)
      go_wp2_with fail
      go_ret2
      exact ⟨_, _, _, rfl, Own.nil, seqB hb1 hbr⟩
    · have HBIG : Hid (¬ (48 ≤ o.id ∧ 65535 < o.kids.length)) := fun h => by have := HL2.out; omega
      go_wp2_with fail
      refine (rput_any (n2 : Int) 2 _ (by omega) (by omega) (by omega) (by omega)).mono ?_
      rintro e w5 ⟨B5, m5, d5, rfl, ho5, hb5⟩
      have hown5 := hown.after hb5
      have hz5 := hb5.size
      have hn5 : ((n2 : Int)).toNat = o.kids.length := by have := HL2.out; omega
      rw [hn5] at ho5
      have hb15 : Below w1.heap.size w1 w5 := Below.trans hbr (hb5.mono hzr)
      clear q0 q4
      go_wp2_with (first | (at_builtin; refine wpList_appw rfl _ _ rfl w1.heap.size _ _ _ _ rfl hown5 _ _ _ _ _ rfl ho5.sl (by have := headW_len HH.out; simp only [List.length_append, enc_length] at *; omega) (by omega) ?_; intro A6 m6 c6 w6 hown6 hg6 hw6))
      have hb16 : Below w1.heap.size w1 w6 := Below.grown hb15 hg6 (by omega) fun b e => (hown.block b e).1
      have hz6 := hg6.size
      have hownL : Own w1.heap.size w6 A6 m6 c6 (enc 2 o.id ++ (pre ++ cntW o.id o.kids.length)) := own_as hown6 (by rw [hcw]; simp)
      have hp0 : ((enc 2 o.id ++ (pre ++ cntW o.id o.kids.length))).length ≤ 131078 := by have := headW_len HH.out; have := cntW_len o.id o.kids.length; simp only [List.length_append, enc_length, List.length_nil] at *; omega
      have HP0 := Lib.hid hp0; clear hp0
      go_loopw [4, 9] (fun u i wr => ∃ k A5 m5 c5 pw, k ≤ n2 ∧ i = .int .i64 (k : Nat) ∧ u = .slice A5 m5 c5 ∧ Hid (putsM (kidW (putD d) o.id) ((kidsO o).take k) = .ok pw) ∧ Own w1.heap.size wr A5 m5 c5 ((enc 2 o.id ++ (pre ++ cntW o.id o.kids.length)) ++ pw) ∧ Below w1.heap.size w1 wr) (fun _ i _ => n2 - (intOf i).toNat)
      case atStart => exact ⟨0, _, _, _, [], by omega, rfl, rfl, rfl, own_as hownL (by simp), hb16⟩
      case round =>
        obtain ⟨k, A5, m5, c5, pw, hk, rfl, rfl, HK, hownr, hbr⟩ := hrel
        have hzr := hbr.size
        have hzw : w.heap.size < wr.heap.size := by omega
        have hbw : Below w.heap.size w wr := seqB hb1 hbr
        have q0 := kcell hbr p0
        have q3 := kcell hbr p3
        have q4 := kcell hbr p4
        by_cases hlt : k < n2
        · obtain ⟨x, hx⟩ : ∃ x, o.kids[k]? = some x := ⟨_, List.getElem?_eq_getElem (by have := HL2.out; omega)⟩
          have HS1 := Lib.hid (HOR.out.kids.after hbw)
          obtain ⟨b, off, rfl, hSb, hbs, HC⟩ := HS1.out.at (by decide) (by omega)
          obtain ⟨v, hv1, hp, hv2⟩ := HC k x hx
          obtain ⟨e, B1, n6, d1, B4, n7, d4, rfl, rfl, hR⟩ := hp.open
          have hc0 := hv2 0 _ rfl
          have hc1 := hv2 1 _ rfl
          have hc2 := hv2 2 _ rfl
          have hc3 := hv2 3 _ rfl
          have hc4 := hv2 4 _ rfl
          simp only [Nat.add_zero] at hc0
          clear hv1 hv2 HC
          have HX := Lib.hid hx; clear hx
          have HR2 := Lib.hid hR; clear hR
          have HRM := Lib.hid (kid_room HOWN.out HK HX.out)
          obtain ⟨q, hq⟩ : ∃ q, putD (e + 1) x = q := ⟨_, rfl⟩
          have HQ := Lib.hid hq; clear hq
          have HKG := Lib.hid (kidsO_no c1 HX.out)
          go_wp2_with fail
          refine (ih e (by omega) (HR2.out.after hbw) hM (by have := HZ.out; have := nD_kid (d := e + 1) (List.mem_of_getElem? HX.out); omega) q HQ.out).mono ?_
          rintro e3 w9 ⟨A9, m9, c9, rfl, ho9, hb9⟩
          have hb19 : Below w1.heap.size w1 w9 := Below.trans hbr (hb9.mono (by omega))
          have hown9 := hownr.after hb9
          have hz9 := hb9.size
          clear q0 q3 q4 hc0 hc1 hc2 hc3 hc4
          cases q with
          | error eq =>
            have hne : eq ≠ 0 := putD_ne HQ.out
            have h0 := putsM_stop HK HKG.out (by unfold kidW nameW; rw [if_neg c1, HQ.out]; rfl : kidW (putD (e + 1)) o.id ([], x) = .error eq)
            obtain rfl := HR.out.symm.trans (putD_kerr HOWN.out HH.out HBIG.out h0)
            go_wp2_with fail
            go_ret2
            exact ⟨_, _, _, rfl, Own.nil, seqB hb1 hb19⟩
          | ok y =>
            have hyl := Lib.hid (putD_len HQ.out)
            have HK2 := putsM_take HK HKG.out (by unfold kidW nameW; rw [if_neg c1, HQ.out]; rfl : kidW (putD (e + 1)) o.id ([], x) = .ok y)
            go_wp2_with (first | (at_builtin; refine wpList_appw rfl _ _ rfl w1.heap.size _ _ _ _ rfl hown9 _ _ _ _ y rfl ho9.sl (by have := HZ.out; have := HRM.out; have := HP0.out; have := hyl.out; simp only [List.length_append] at *; omega) (by omega) ?_; intro A10 m10 c10 w10 hown10 hg10 hw10))
            have HO10 := Lib.hid hown10; clear hown10
            have hown12 : Own w1.heap.size w10 A10 m10 c10 (enc 2 o.id ++ (pre ++ cntW o.id o.kids.length) ++ (pw ++ y)) := own_as HO10.out (by simp)
            have hbel12 : Below w1.heap.size w1 w10 := Below.grown hb19 hg10 (by omega) fun b e => (hownr.block b e).1
            first
              | exact ⟨⟨_, _, _, _, ⟨k + 1, by omega, by go_num, A10, m10, c10, rfl, pw ++ y, HK2, own_as hown12 (by first | (simp; done) | simp [hcw]), hbel12⟩, rfl, rfl, rfl, rfl⟩, by simp [intOf]; omega⟩
              | exact ⟨⟨_, _, _, _, ⟨k + 1, A10, m10, c10, pw ++ y, by omega, by go_num, rfl, HK2, own_as hown12 (by first | (simp; done) | simp [hcw]), hbel12⟩, rfl, rfl, rfl, rfl⟩, by simp [intOf]; omega⟩
              | exact ⟨⟨k + 1, A10, m10, c10, pw ++ y, by omega, by go_num, rfl, HK2, own_as hown12 (by first | (simp; done) | simp [hcw]), hbel12⟩, by simp [intOf]; omega⟩
        · obtain rfl : k = n2 := by omega
          have h0 : putsM (kidW (putD d) o.id) (kidsO o) = .ok pw := by have := HK; rwa [List.take_of_length_le (by have := HL2.out; rw [kidsO_len HOWN.out]; omega)] at this
          obtain rfl := HR.out.symm.trans (putD_kok HOWN.out HH.out HBIG.out h0)
          go_wp2_with fail
          go_ret2
          exact ⟨_, _, _, rfl, own_as (hownr.mono (by omega)) (by simp), hbw⟩
end Go.Proofs.Sb

/- Walk over signalboxref04.put, at some numbers. Conditions: lengths up to 2^47. (written by gen_ref4put.py) -/
namespace Go.Proofs.Sb
open Go.RowKit _root_.Sb

set_option maxHeartbeats 8000000 in
set_option maxRecDepth 100000 in
theorem put4_else {d : Nat} (ih : ∀ m, m < d → Put4 m) {S : Nat → Prop} {M : Nat} {A1 : Option Addr} {n1 c1 : Nat} {A2 : Option Addr} {n2 c2 : Nat} {o : Opt} {w : World} (ho : OptR S w M d A1 n1 c1 A2 n2 c2 o) (hM : M ≤ 9223372036854775807) (hsz : 200000 * nD (d + 1) o ≤ 140737488355328) (hc : ¬ o.id = 0 ∧ ¬ o.id = 48 ∧ ¬ o.id = 49) (HOWN : Hid (ownO o = true)) (r : Wr) (hr : putD (d + 1) o = r) :
    Calls Tryd.prog 72 #[optV o A1 n1 c1 A2 n2 c2] w fun e w' => ∃ A' n' c', e = .returned (.tuple #[.slice A' n' c', .int .i64 (werr r)]) ∧ Own w.heap.size w' A' n' c' (wval r) ∧ Below w.heap.size w w' := by
  have hl1 := ho.names.len
  have hl2 := ho.kids.len
  have hid := ho.id
  have hsp := ho.space
  have hnm := ho.name
  have hcap1 := ho.names.cap
  have hcm1 := ho.names.capMax
  have hcap2 := ho.kids.cap
  have hcm2 := ho.kids.capMax
  have HZ := Lib.hid hsz; clear hsz
  have HL1 := Lib.hid hl1; clear hl1
  have HL2 := Lib.hid hl2; clear hl2
  have HR := Lib.hid hr; clear hr
  have HOR := Lib.hid ho.lt; clear ho
  go_enter Tryd.func72, Tryd.ntmps72
  go_wp2_with fail
  refine (own4_any (HOR.out.after (by repeat (first | exact Below.refl _ _ | assumption | refine Below.drew ?_ | refine below_drewN ?_ _ | refine Below.alloc ?_ (by first | (simp; done) | omega | (simp; omega)) _ | refine Below.setCell ?_ (by first | (simp; done) | omega | (simp; omega)) _)))).mono ?_
  rintro e w1 ⟨rfl, hb1⟩
  rw [HOWN.out]
  have p0 : w1.cell? ⟨w.heap.size, 0, none⟩ = some (.int .u16 (o.id : Int)) := kcell hb1 (by go_simp)
  have p1 : w1.cell? ⟨w.heap.size, 1, none⟩ = some (.string (str o.space)) := kcell hb1 (by go_simp)
  have p2 : w1.cell? ⟨w.heap.size, 2, none⟩ = some (.string (str o.name)) := kcell hb1 (by go_simp)
  have p3 : w1.cell? ⟨w.heap.size, 3, none⟩ = some (.slice A1 n1 c1) := kcell hb1 (by go_simp)
  have p4 : w1.cell? ⟨w.heap.size, 4, none⟩ = some (.slice A2 n2 c2) := kcell hb1 (by go_simp)
  have hz1 : w.heap.size < w1.heap.size := by have := hb1.size; simp at this; omega
  replace hb1 : Below w.heap.size w w1 := Below.trans (by repeat (first | exact Below.refl _ _ | assumption | refine Below.drew ?_ | refine below_drewN ?_ _ | refine Below.alloc ?_ (by first | (simp; done) | omega | (simp; omega)) _ | refine Below.setCell ?_ (by first | (simp; done) | omega | (simp; omega)) _)) (hb1.mono (by simp))
  have hnp := nD_pos (d + 1) o
  have hid2 : ((o.id : Int)).toNat = o.id := by omega
  have hge : 48 ≤ o.id → o.id = 48 ∨ o.id = 49 := fun h => by have := kn_lt (own_id HOWN.out); omega
  have HGE := Lib.hid hge; clear hge
  go_wp2_with fail
  refine (rput_any (o.id : Int) 2 _ (by omega) (by omega) (by omega) (by omega)).mono ?_
  rintro e w2 ⟨B2, m2, d2, rfl, ho2, hb2⟩
  rw [hid2] at ho2
  have r0 := kcell hb2 p0
  have r1 := kcell hb2 p1
  have r2 := kcell hb2 p2
  have hz2 := hb2.size
  obtain ⟨rt, hrt⟩ : ∃ rt, headW o.id (o.space, o.name) = rt := ⟨_, rfl⟩
  have HH := Lib.hid hrt; clear hrt
  obtain ⟨c0, c1, c2⟩ := hc
  obtain ⟨pre, rfl⟩ : ∃ pre : B, rt = .ok pre := ⟨[], HH.out.symm.trans (head_no c1 c0)⟩
  have hpe : pre = [] := by have := HH.out.symm.trans (head_no c1 c0); injection this
  have hown : Own w1.heap.size w2 B2 m2 d2 (enc 2 o.id ++ pre) := own_as ho2 (by rw [hpe]; simp)
  clear hpe
  have hbr := hb2
  have hzr := hbr.size
  go_wp2_with fail
  go_loopw [4, 6] (fun u i wr => u = .slice B2 m2 d2 ∧ i = .int .i64 0 ∧ w2 = wr) (fun _ _ _ => 0)
  case atStart => exact ⟨rfl, rfl, rfl⟩
  case round =>
    obtain ⟨rfl, rfl, hwr⟩ := hrel
    subst hwr
    have q0 := kcell hbr p0
    have q4 := kcell hbr p4
    have hle : ¬ 48 ≤ o.id := fun h => by have := HGE.out h; omega
    have hcw : cntW o.id o.kids.length = [] := by unfold cntW; rw [if_neg hle]
    have HBIG : Hid (¬ (48 ≤ o.id ∧ 65535 < o.kids.length)) := fun h => hle h.1
    go_wp2_with fail
    have hownL : Own w1.heap.size w2 B2 m2 d2 (enc 2 o.id ++ (pre ++ cntW o.id o.kids.length)) := own_as hown (by rw [hcw]; simp)

    have hp0 : ((enc 2 o.id ++ (pre ++ cntW o.id o.kids.length))).length ≤ 131078 := by have := headW_len HH.out; have := cntW_len o.id o.kids.length; simp only [List.length_append, enc_length, List.length_nil] at *; omega
    have HP0 := Lib.hid hp0; clear hp0
    go_loopw [4, 9] (fun u i wr => ∃ k A5 m5 c5 pw, k ≤ n2 ∧ i = .int .i64 (k : Nat) ∧ u = .slice A5 m5 c5 ∧ Hid (putsM (kidW (putD d) o.id) ((kidsO o).take k) = .ok pw) ∧ Own w1.heap.size wr A5 m5 c5 ((enc 2 o.id ++ (pre ++ cntW o.id o.kids.length)) ++ pw) ∧ Below w1.heap.size w1 wr) (fun _ i _ => n2 - (intOf i).toNat)
    case atStart => exact ⟨0, _, _, _, [], by omega, rfl, rfl, rfl, own_as hownL (by simp), hbr⟩
    case round =>
      obtain ⟨k, A5, m5, c5, pw, hk, rfl, rfl, HK, hownr, hbr⟩ := hrel
      have hzr := hbr.size
      have hzw : w.heap.size < wr.heap.size := by omega
      have hbw : Below w.heap.size w wr := seqB hb1 hbr
      have q0 := kcell hbr p0
      have q3 := kcell hbr p3
      have q4 := kcell hbr p4
      by_cases hlt : k < n2
      · obtain ⟨x, hx⟩ : ∃ x, o.kids[k]? = some x := ⟨_, List.getElem?_eq_getElem (by have := HL2.out; omega)⟩
        have HS1 := Lib.hid (HOR.out.kids.after hbw)
        obtain ⟨b, off, rfl, hSb, hbs, HC⟩ := HS1.out.at (by decide) (by omega)
        obtain ⟨v, hv1, hp, hv2⟩ := HC k x hx
        obtain ⟨e, B1, n6, d1, B4, n7, d4, rfl, rfl, hR⟩ := hp.open
        have hc0 := hv2 0 _ rfl
        have hc1 := hv2 1 _ rfl
        have hc2 := hv2 2 _ rfl
        have hc3 := hv2 3 _ rfl
        have hc4 := hv2 4 _ rfl
        simp only [Nat.add_zero] at hc0
        clear hv1 hv2 HC
        have HX := Lib.hid hx; clear hx
        have HR2 := Lib.hid hR; clear hR
        have HRM := Lib.hid (kid_room HOWN.out HK HX.out)
        obtain ⟨q, hq⟩ : ∃ q, putD (e + 1) x = q := ⟨_, rfl⟩
        have HQ := Lib.hid hq; clear hq
        have HKG := Lib.hid (kidsO_no c1 HX.out)
        go_wp2_with fail
        refine (ih e (by omega) (HR2.out.after hbw) hM (by have := HZ.out; have := nD_kid (d := e + 1) (List.mem_of_getElem? HX.out); omega) q HQ.out).mono ?_
        rintro e3 w9 ⟨A9, m9, c9, rfl, ho9, hb9⟩
        have hb19 : Below w1.heap.size w1 w9 := Below.trans hbr (hb9.mono (by omega))
        have hown9 := hownr.after hb9
        have hz9 := hb9.size
        clear q0 q3 q4 hc0 hc1 hc2 hc3 hc4
        cases q with
        | error eq =>
          have hne : eq ≠ 0 := putD_ne HQ.out
          have h0 := putsM_stop HK HKG.out (by unfold kidW nameW; rw [if_neg c1, HQ.out]; rfl : kidW (putD (e + 1)) o.id ([], x) = .error eq)
          obtain rfl := HR.out.symm.trans (putD_kerr HOWN.out HH.out HBIG.out h0)
          go_wp2_with fail
          go_ret2
          exact ⟨_, _, _, rfl, Own.nil, seqB hb1 hb19⟩
        | ok y =>
          have hyl := Lib.hid (putD_len HQ.out)
          have HK2 := putsM_take HK HKG.out (by unfold kidW nameW; rw [if_neg c1, HQ.out]; rfl : kidW (putD (e + 1)) o.id ([], x) = .ok y)
          go_wp2_with (first | (at_builtin; refine wpList_appw rfl _ _ rfl w1.heap.size _ _ _ _ rfl hown9 _ _ _ _ y rfl ho9.sl (by have := HZ.out; have := HRM.out; have := HP0.out; have := hyl.out; simp only [List.length_append] at *; omega) (by omega) ?_; intro A10 m10 c10 w10 hown10 hg10 hw10))
          have HO10 := Lib.hid hown10; clear hown10
          have hown12 : Own w1.heap.size w10 A10 m10 c10 (enc 2 o.id ++ (pre ++ cntW o.id o.kids.length) ++ (pw ++ y)) := own_as HO10.out (by simp)
          have hbel12 : Below w1.heap.size w1 w10 := Below.grown hb19 hg10 (by omega) fun b e => (hownr.block b e).1
          first
            | exact ⟨⟨_, _, _, _, ⟨k + 1, by omega, by go_num, A10, m10, c10, rfl, pw ++ y, HK2, own_as hown12 (by first | (simp; done) | simp [hcw]), hbel12⟩, rfl, rfl, rfl, rfl⟩, by simp [intOf]; omega⟩
            | exact ⟨⟨_, _, _, _, ⟨k + 1, A10, m10, c10, pw ++ y, by omega, by go_num, rfl, HK2, own_as hown12 (by first | (simp; done) | simp [hcw]), hbel12⟩, rfl, rfl, rfl, rfl⟩, by simp [intOf]; omega⟩
            | exact ⟨⟨k + 1, A10, m10, c10, pw ++ y, by omega, by go_num, rfl, HK2, own_as hown12 (by first | (simp; done) | simp [hcw]), hbel12⟩, by simp [intOf]; omega⟩
      · obtain rfl : k = n2 := by omega
        have h0 : putsM (kidW (putD d) o.id) (kidsO o) = .ok pw := by have := HK; rwa [List.take_of_length_le (by have := HL2.out; rw [kidsO_len HOWN.out]; omega)] at this
        obtain rfl := HR.out.symm.trans (putD_kok HOWN.out HH.out HBIG.out h0)
        go_wp2_with fail
        go_ret2
        exact ⟨_, _, _, rfl, own_as (hownr.mono (by omega)) (by simp), hbw⟩
end Go.Proofs.Sb

/- Walks over signalboxref04.put, Put. Conditions: lengths up to 2^47. (written by gen_ref4put.py) -/
namespace Go.Proofs.Sb
open Go.RowKit _root_.Sb

set_option maxHeartbeats 2000000 in
set_option maxRecDepth 100000 in
theorem put4_bad {d : Nat} {S : Nat → Prop} {M : Nat} {A1 : Option Addr} {n1 c1 : Nat} {A2 : Option Addr} {n2 c2 : Nat} {o : Opt} {w : World} (ho : OptR S w M d A1 n1 c1 A2 n2 c2 o) (HOWN : Hid (ownO o = false)) (r : Wr) (hr : putD (d + 1) o = r) :
    Calls Tryd.prog 72 #[optV o A1 n1 c1 A2 n2 c2] w fun e w' => ∃ A' n' c', e = .returned (.tuple #[.slice A' n' c', .int .i64 (werr r)]) ∧ Own w.heap.size w' A' n' c' (wval r) ∧ Below w.heap.size w w' := by
  have HOR := Lib.hid ho.lt; clear ho
  obtain rfl := hr.symm.trans (putD_own HOWN.out)
  go_enter Tryd.func72, Tryd.ntmps72
  go_wp2_with fail
  refine (own4_any (HOR.out.after (by repeat (first | exact Below.refl _ _ | assumption | refine Below.drew ?_ | refine below_drewN ?_ _ | refine Below.alloc ?_ (by first | (simp; done) | omega | (simp; omega)) _ | refine Below.setCell ?_ (by first | (simp; done) | omega | (simp; omega)) _)))).mono ?_
  rintro e w1 ⟨rfl, hb1⟩
  rw [HOWN.out]
  go_wp2_with fail
  go_ret2
  exact ⟨_, _, _, rfl, Own.nil, Below.trans (by repeat (first | exact Below.refl _ _ | assumption | refine Below.drew ?_ | refine below_drewN ?_ _ | refine Below.alloc ?_ (by first | (simp; done) | omega | (simp; omega)) _ | refine Below.setCell ?_ (by first | (simp; done) | omega | (simp; omega)) _)) (hb1.mono (by simp))⟩
theorem put4_all : ∀ d : Nat, Put4 d := by
  intro d
  induction d using Nat.strongRecOn with
  | ind d ih =>
  intro S M A1 n1 c1 A2 n2 c2 o w ho hM hsz r hr
  cases hres : ownO o with
  | false => exact put4_bad ho (Lib.hid hres) r hr
  | true =>
    by_cases c0 : o.id = 0
    · exact put4_0 ih ho hM hsz (Lib.hid c0) (Lib.hid hres) r hr
    · by_cases c1 : o.id = 48
      · exact put4_48 ih ho hM hsz (Lib.hid c1) (Lib.hid hres) r hr
      · by_cases c2 : o.id = 49
        · exact put4_49 ih ho hM hsz (Lib.hid c2) (Lib.hid hres) r hr
        · exact put4_else ih ho hM hsz ⟨c0, c1, c2⟩ (Lib.hid hres) r hr

set_option maxHeartbeats 2000000 in
set_option maxRecDepth 100000 in
theorem Put4_any {d : Nat} {S : Nat → Prop} {M : Nat} {A1 : Option Addr} {n1 c1 : Nat} {A2 : Option Addr} {n2 c2 : Nat} {o : Opt} {w : World} (ho : OptR S w M d A1 n1 c1 A2 n2 c2 o) (hM : M ≤ 9223372036854775807) (hn : nD (d + 1) o ≤ 1000000) (r : Wr) (hr : putW (d + 1) o = r) :
    Calls Tryd.prog 41 #[optV o A1 n1 c1 A2 n2 c2] w fun e w' => ∃ A' n' c', e = .returned (.tuple #[.slice A' n' c', .int .i64 (werr r)]) ∧ Own w.heap.size w' A' n' c' (wval r) ∧ Below w.heap.size w w' := by
  have HR := Lib.hid hr; clear hr
  have HOR := Lib.hid ho.lt; clear ho
  have hdn := Nat.le_trans (depthD_nD (d + 1) o) hn
  have HN := Lib.hid hn; clear hn
  obtain ⟨dep, hdep⟩ : ∃ dep, depthD (d + 1) o = dep := ⟨_, rfl⟩
  rw [hdep] at hdn
  have HD := Lib.hid hdep; clear hdep
  go_enter Tryd.func41, Tryd.ntmps41
  go_wp2_with fail
  refine (depth4_any d (HOR.out.after (by repeat (first | exact Below.refl _ _ | assumption | refine Below.drew ?_ | refine below_drewN ?_ _ | refine Below.alloc ?_ (by first | (simp; done) | omega | (simp; omega)) _ | refine Below.setCell ?_ (by first | (simp; done) | omega | (simp; omega)) _))) HN.out).mono ?_
  rintro e w1 ⟨rfl, hb1⟩
  rw [HD.out]
  have p0 : w1.cell? ⟨w.heap.size, 0, none⟩ = some (.int .u16 (o.id : Int)) := kcell hb1 (by go_simp)
  have p1 : w1.cell? ⟨w.heap.size, 1, none⟩ = some (.string (str o.space)) := kcell hb1 (by go_simp)
  have p2 : w1.cell? ⟨w.heap.size, 2, none⟩ = some (.string (str o.name)) := kcell hb1 (by go_simp)
  have p3 : w1.cell? ⟨w.heap.size, 3, none⟩ = some (.slice A1 n1 c1) := kcell hb1 (by go_simp)
  have p4 : w1.cell? ⟨w.heap.size, 4, none⟩ = some (.slice A2 n2 c2) := kcell hb1 (by go_simp)
  replace hb1 : Below w.heap.size w w1 := Below.trans (by repeat (first | exact Below.refl _ _ | assumption | refine Below.drew ?_ | refine below_drewN ?_ _ | refine Below.alloc ?_ (by first | (simp; done) | omega | (simp; omega)) _ | refine Below.setCell ?_ (by first | (simp; done) | omega | (simp; omega)) _)) (hb1.mono (by simp))
  by_cases hdeep : 20 < dep
  · have h0 : putW (d + 1) o = .error 13 := by unfold putW; rw [HD.out, if_pos hdeep]
    obtain rfl := HR.out.symm.trans h0
    go_wp2_with fail
    go_ret2
    exact ⟨_, _, _, rfl, Own.nil, hb1⟩
  · have h0 : putD (d + 1) o = r := by have := HR.out; unfold putW at this; rwa [HD.out, if_neg hdeep] at this
    have H0 := Lib.hid h0; clear h0
    go_wp2_with fail
    refine (put4_all d (HOR.out.after hb1) hM (by have := HN.out; omega) r H0.out).mono ?_
    rintro e2 w2 ⟨A', n', c', rfl, ho2, hb2⟩
    clear p0 p1 p2 p3 p4
    have hsz := hb1.size
    go_wp2_with fail
    go_ret2
    exact ⟨_, _, _, rfl, ho2.mono hsz, seqB hb1 hb2⟩
end Go.Proofs.Sb
