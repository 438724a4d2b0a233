/- Walks over option.texts, put, Put. Conditions: the table of names reads as it was laid; lengths up to 2^47. (written by gen_optput.py) -/
import Derived.Test.YtenhgcgdhaegaaaDoorOptm
set_option linter.unusedVariables false
set_option linter.unusedSimpArgs false
namespace Sb
/-- bytes and what is put behind them; nothing where that may not be -/
def outB (bs : B) : Wr → B | .ok t => bs ++ t | .error _ => []
theorem putD_own {d : Nat} {o : Opt} (h : ownO o = false) : putD (d + 1) o = .error 1 := by simp only [putD]; rw [if_pos h]
theorem putD_herr {d : Nat} {o : Opt} {e : Int} (h : ownO o = true) (hh : headW o.id (o.space, o.name) = .error e) : putD (d + 1) o = .error e := by simp only [putD]; rw [if_neg (by rw [h]; decide), hh]
theorem putD_big {d : Nat} {o : Opt} {x : B} (h : ownO o = true) (hh : headW o.id (o.space, o.name) = .ok x) (h1 : 48 ≤ o.id ∧ 65535 < o.kids.length) : putD (d + 1) o = .error 12 := by simp only [putD]; rw [if_neg (by rw [h]; decide), hh]; simp only; rw [if_pos h1]
theorem putD_kerr {d : Nat} {o : Opt} {x : B} {e : Int} (h : ownO o = true) (hh : headW o.id (o.space, o.name) = .ok x) (h1 : ¬ (48 ≤ o.id ∧ 65535 < o.kids.length)) (hk : putsM (kidW (putD d) o.id) (kidsO o) = .error e) : putD (d + 1) o = .error e := by simp only [putD]; rw [if_neg (by rw [h]; decide), hh]; simp only; rw [if_neg h1, hk]
theorem putD_kok {d : Nat} {o : Opt} {x r : B} (h : ownO o = true) (hh : headW o.id (o.space, o.name) = .ok x) (h1 : ¬ (48 ≤ o.id ∧ 65535 < o.kids.length)) (hk : putsM (kidW (putD d) o.id) (kidsO o) = .ok r) : putD (d + 1) o = .ok (enc 2 o.id ++ (x ++ (cntW o.id o.kids.length ++ r))) := by simp only [putD]; rw [if_neg (by rw [h]; decide), hh]; simp only; rw [if_neg h1, hk]
theorem kidsO_48 {o : Opt} {k : Nat} {s : B} {x : Opt} (h : o.id = 48) (hs : o.names[k]? = some s) (hx : o.kids[k]? = some x) : (kidsO o)[k]? = some (s, x) := by
  unfold kidsO
  rw [if_pos h, List.getElem?_zip_eq_some]
  exact ⟨hs, hx⟩
theorem kidsO_no {o : Opt} {k : Nat} {x : Opt} (h : ¬ o.id = 48) (hx : o.kids[k]? = some x) : (kidsO o)[k]? = some ([], x) := by
  unfold kidsO
  rw [if_neg h, List.getElem?_map, hx]
  rfl
theorem kid_room {d : Nat} {o : Opt} {k : Nat} {pre : B} {x : Opt} (h : ownO o = true) (hp : putsM (kidW (putD d) o.id) ((kidsO o).take k) = .ok pre) (hx : o.kids[k]? = some x) : pre.length + 200000 * nD d x + 200000 ≤ 200000 * nD (d + 1) o := by
  have hy := putsM_sum (g := fun p : B × Opt => 200000 * nD d p.2) (fun p _ b hb => by
    obtain ⟨u, v, h4, h5, rfl⟩ := bothW_ok hb
    have := nameW_len h4
    have := putD_len' h5
    rw [List.length_append]
    omega) hp
  have e2 : (((kidsO o).take k).map fun p : B × Opt => 200000 * nD d p.2).sum = 200000 * ((o.kids.take k).map (nD d)).sum := by
    rw [← kidsO_snd h, ← List.map_take, List.map_map, ← sum_mul, List.map_map]
    rfl
  rw [e2] at hy
  have h3 : ((o.kids.map (nD d)).take k).sum + nD d x ≤ (o.kids.map (nD d)).sum := by
    have hg : (o.kids.map (nD d))[k]? = some (nD d x) := by rw [List.getElem?_map, hx]; rfl
    obtain ⟨hk, e⟩ := List.getElem?_eq_some_iff.1 hg
    have e1 : (o.kids.map (nD d)).take (k + 1) = (o.kids.map (nD d)).take k ++ [(o.kids.map (nD d))[k]] := List.take_succ_eq_append_getElem hk
    have h2 : (o.kids.map (nD d)).sum = ((o.kids.map (nD d)).take (k + 1)).sum + ((o.kids.map (nD d)).drop (k + 1)).sum := by rw [← List.sum_append, List.take_append_drop]
    rw [e1, List.sum_append, e] at h2
    simp at h2
    omega
  rw [← List.map_take] at h3
  simp only [nD]
  omega
theorem own_48 {o : Opt} (h : ownO o = true) (h2 : o.id = 48) : o.names.length = o.kids.length := by
  unfold ownO at h
  have h := (of_decide_eq_true h).2.2
  rwa [if_pos h2] at h
theorem own_0 {o : Opt} (h : ownO o = true) (h2 : o.id = 0) : o.kids = [] := by
  unfold ownO at h
  have h := (of_decide_eq_true h).2.1
  rw [h2] at h
  have : kn 0 = 0 := by decide
  rw [this] at h
  exact List.eq_nil_of_length_eq_zero (by have := h (by omega); omega)
theorem putD_0 {d : Nat} {o : Opt} {r : Wr} (h : ownO o = true) (h2 : o.id = 0) (hr : putD (d + 1) o = r) : (∃ e, r = .error e ∧ putsM text [o.name] = .error e) ∨ ∃ t, r = .ok (enc 2 0 ++ t) ∧ putsM text [o.name] = .ok t := by
  have hk := own_0 h h2
  cases ht : text o.name with
  | error e => exact .inl ⟨e, by rw [← hr, putD_herr h (e := e) (by unfold headW; rw [if_neg (by omega), if_pos h2]; exact ht)], by simp only [putsM, ht]⟩
  | ok t =>
    refine .inr ⟨t, ?_, by simp only [putsM, ht, List.append_nil]⟩
    rw [← hr, putD_kok h (x := t) (r := []) (by unfold headW; rw [if_neg (by omega), if_pos h2]; exact ht) (by omega) (by unfold kidsO; rw [hk, if_neg (by omega)]; rfl)]
    unfold cntW
    rw [h2, if_neg (by omega)]
    simp
theorem head_48 (sp nm : B) : putsM text [sp, nm] = headW 48 (sp, nm) := by
  unfold headW bothW
  rw [if_pos rfl]
  simp only [putsM]
  cases text sp with
  | error e => rfl
  | ok a =>
    cases text nm with
    | error e => rfl
    | ok b => simp
theorem head_no {id : Nat} {p : B × B} (h : ¬ id = 48) (h2 : ¬ id = 0) : headW id p = .ok [] := by unfold headW; rw [if_neg h, if_neg h2]
end Sb
namespace Go.Proofs.Sb
open Go.RowKit _root_.Sb

/-- where a row lies that grew: where it lay, or behind N -/
def Wh (N : Nat) (A A' : Option Addr) : Prop := ∀ b, A'.map (·.block) = some b → A.map (·.block) = some b ∨ N ≤ b
theorem Wh.refl (N : Nat) (A : Option Addr) : Wh N A A := fun _ h => .inl h
theorem Wh.nil (N : Nat) (A : Option Addr) : Wh N A none := fun _ h => (by cases h)
theorem Wh.seq {N N' : Nat} {A B C : Option Addr} (h : Wh N A B) (k : Wh N' B C) (hN : N ≤ N') : Wh N A C := fun b hb => by
  rcases k b hb with h1 | h1
  · exact h b h1
  · exact .inr (Nat.le_trans hN h1)
set_option maxHeartbeats 2000000 in
set_option maxRecDepth 100000 in
theorem otexts_any {S : Nat → Prop} {base : Nat} {A : Option Addr} {n c : Nat} {bs : B} {L : Option Addr} {m cl : Nat} {l : List B} {w : World} (hown : Own base w A n c bs) (hbase : base ≤ w.heap.size) (hl : Arr 1 strP S w L m cl l) (hS : ∀ b, S b → A.map (·.block) ≠ some b)
    (hsz : bs.length + 65537 * l.length ≤ 140737488355328) (r : Wr) (hr : putsM text l = r) :
    Calls Tryd.prog 86 #[.slice A n c, .slice L m cl] w fun e w' => ∃ A' n' c', e = .returned (.tuple #[.slice A' n' c', .int .i64 (werr r)]) ∧ Own base w' A' n' c' (outB bs r) ∧ w.grownBy w' (A.map (·.block)) ∧ Wh w.heap.size A A' := by
  have hlen := Lib.hid hl.len
  have hcap := hl.cap
  have hcm := hl.capMax
  have HS := Lib.hid (hl.mono (S' := fun b => S b ∧ b < w.heap.size) fun _ h1 h2 => ⟨h1, h2⟩); clear hl
  have HS0 := Lib.hid hS; clear hS
  have HZ := Lib.hid hsz; clear hsz
  have HR := Lib.hid hr; clear hr
  have HO := Lib.hid hown; clear hown
  go_enter Tryd.func86, Tryd.ntmps86
  go_wp2_with fail
  go_loopw [0, 12] (fun o i wr => ∃ k A2 m2 c2 pre, k ≤ m ∧ i = .int .i64 (k : Nat) ∧ o = .slice A2 m2 c2 ∧ Hid (putsM text (l.take k) = .ok pre) ∧ Own base wr A2 m2 c2 (bs ++ pre) ∧ w.grownBy wr (A.map (·.block)) ∧ Wh w.heap.size A A2) (fun _ i _ => m - (intOf i).toNat)
  case atStart => exact ⟨0, A, n, c, [], by omega, rfl, rfl, rfl, by rw [List.append_nil]; exact HO.out, World.grownBy.refl _ _, Wh.refl _ _⟩
  case round =>
    obtain ⟨k, A2, m2, c2, pre, hk, rfl, rfl, HK, hown, hg, HW⟩ := hrel
    have hsz := hg.size
    by_cases hlt : k < m
    · obtain ⟨x, hx⟩ : ∃ x, l[k]? = some x := ⟨_, List.getElem?_eq_getElem (by have := hlen.out; omega)⟩
      have HS1 := Lib.hid (HS.out.grown hg fun b h e => HS0.out b h.1 e.symm)
      obtain ⟨b, o, rfl, hSb, hbs, HC⟩ := HS1.out.at (by decide) (by omega)
      obtain ⟨v, hv1, ⟨rfl, hxl⟩, hv2⟩ := HC k x hx
      have hcell := hv2 0 _ rfl
      clear hv1 hv2 HC
      obtain ⟨q, hq⟩ : ∃ q, text x = q := ⟨_, rfl⟩
      have HQ := Lib.hid hq; clear hq
      have HX := Lib.hid hx; clear hx
      simp only [Nat.mul_one, Nat.add_zero] at hcell
      go_wp2_with fail
      refine (text_any x _ hxl q HQ.out).mono ?_
      rintro e w2 ⟨A3, m3, c3, rfl, ho3, hb3⟩
      have hg2 : w.grownBy w2 (A.map (·.block)) := grow_seq hg (grow_of_below (row := A.map (·.block)) hb3) fun j e => .inr e
      cases q with
      | error e2 =>
        have hne := text_ne HQ.out
        have h0 := putsM_stop HK HX.out HQ.out
        rw [h0] at HR
        obtain rfl := HR.out
        go_wp2_with fail
        go_ret2
        exact ⟨_, _, _, rfl, Own.nil, hg2, Wh.nil _ _⟩
      | ok y =>
        have hown2 := hown.after hb3
        have hsz2 := hg2.size
        have HK2 := putsM_take HK HX.out HQ.out
        have hpl := Lib.hid (putsM_len (M := 65537) (fun x _ b hb => (text_len hb).1) HK)
        have hyl := (text_len HQ.out).1
        go_wp2_with (first | (at_builtin; refine wpList_appw rfl _ _ rfl base _ _ _ _ rfl hown2 _ _ _ _ y rfl ho3.sl (by have := hpl.out; have := hlen.out; have := HZ.out; rw [List.length_take] at *; rw [List.length_append]; omega) (by omega) ?_; intro A4 m4 c4 w3 hown3 hg3 hw3))
        have hown3 := Lib.hid hown3
        have hg4 : w.grownBy w3 (A.map (·.block)) := grow_seq hg2 hg3 fun j e => (HW j e).symm
        have hz3 := hg3.size
        refine ⟨⟨k + 1, A4, m4, c4, pre ++ y, by omega, by go_num, rfl, HK2, by rw [← List.append_assoc]; exact hown3.out, hg4, HW.seq hw3 (by omega)⟩, by simp [intOf]; omega⟩
    · obtain rfl : k = m := by omega
      have h0 : putsM text l = .ok pre := by have := HK; rwa [List.take_of_length_le (by have := hlen.out; omega)] at this
      rw [h0] at HR
      obtain rfl := HR.out
      go_wp2_with fail
      go_ret2
      exact ⟨_, _, _, rfl, hown, hg, HW⟩

theorem own_as {base : Nat} {w : World} {A : Option Addr} {n c : Nat} {bs cs : B} (h : Own base w A n c bs) (e : bs = cs) : Own base w A n c cs := e ▸ h
theorem gcx {w w' : World} {row : Option Nat} (hg : w.grownBy w' row) {b o : Nat} {v : Value} (hr : row ≠ some b) (h : w.cell? ⟨b, o, none⟩ = some v) : w'.cell? ⟨b, o, none⟩ = some v :=
  (World.cell?_of_block (hg.block b (World.block_lt_of_cell? w ⟨b, o, none⟩ h) fun e => hr e.symm)).trans h

set_option maxHeartbeats 8000000 in
set_option maxRecDepth 100000 in
theorem oput_any : ∀ (d : Nat) {S : Nat → Prop} {M : Nat} {A1 : Option Addr} {n1 c1 : Nat} {A2 : Option Addr} {n2 c2 : Nat} {o : Opt} {w : World} {base : Nat} {A : Option Addr} {n c : Nat} {bs : B}, Own base w A n c bs → base ≤ w.heap.size → OptR S w M d A1 n1 c1 A2 n2 c2 o → (∀ b, S b → A.map (·.block) ≠ some b) →
    M ≤ 9223372036854775807 → Pl w → A.map (·.block) ≠ some 0 → bs.length + 200000 * nD (d + 1) o ≤ 140737488355328 → ∀ r, putD (d + 1) o = r →
    Calls Tryd.prog 69 #[.slice A n c, optV o A1 n1 c1 A2 n2 c2] w fun e w' => ∃ A' n' c', e = .returned (.tuple #[.slice A' n' c', .int .i64 (werr r)]) ∧ Own base w' A' n' c' (outB bs r) ∧ w.grownBy w' (A.map (·.block)) ∧ Wh w.heap.size A A' := by
  intro d
  induction d using Nat.strongRecOn with
  | ind d ih =>
  intro S M A1 n1 c1 A2 n2 c2 o w base A n c bs hown hbase ho hS hM hw hA0 hsz r hr
  have hl1 := ho.names.len
  have hl2 := ho.kids.len
  have hid := ho.id
  have hsp := ho.space
  have hnm := ho.name
  have hcap1 := ho.names.cap
  have hcm1 := ho.names.capMax
  have hcap2 := ho.kids.cap
  have hcm2 := ho.kids.capMax
  have HS0 := Lib.hid hS; clear hS
  have HPL := Lib.hid hw; clear hw
  have HA0 := Lib.hid hA0; clear hA0
  have HZ := Lib.hid hsz; clear hsz
  have HL1 := Lib.hid hl1; clear hl1
  have HL2 := Lib.hid hl2; clear hl2
  have HR := Lib.hid hr; clear hr
  have hlt0 : ∀ b, A.map (·.block) = some b → b < w.heap.size := fun b h => (hown.block b h).2
  have HAX : A.map (·.block) ≠ some w.heap.size := fun e => by have := hlt0 _ e; omega
  have HLT := Lib.hid hlt0; clear hlt0
  have HAX := Lib.hid HAX
  have HO := Lib.hid hown; clear hown
  have HOR := Lib.hid ho.lt; clear ho
  obtain ⟨res, hres⟩ : ∃ res, ownO o = res := ⟨_, rfl⟩
  have HOWN := Lib.hid hres; clear hres
  go_enter Tryd.func69, Tryd.ntmps69
  go_wp2_with fail
  refine (own_any (HOR.out.after (by repeat (first | exact Below.refl _ _ | assumption | refine Below.drew ?_ | refine below_drewN ?_ _ | refine Below.alloc ?_ (by first | (simp; done) | omega | (simp; omega)) _ | refine Below.setCell ?_ (by first | (simp; done) | omega | (simp; omega)) _))) (HPL.out.after (by repeat (first | exact Below.refl _ _ | assumption | refine Below.drew ?_ | refine below_drewN ?_ _ | refine Below.alloc ?_ (by first | (simp; done) | omega | (simp; omega)) _ | refine Below.setCell ?_ (by first | (simp; done) | omega | (simp; omega)) _)))).mono ?_
  rintro e w1 ⟨rfl, hb1⟩
  rw [HOWN.out]
  have p0 : w1.cell? ⟨w.heap.size, 0, none⟩ = some (.int .u16 (o.id : Int)) := kcell hb1 (by go_simp)
  have p1 : w1.cell? ⟨w.heap.size, 1, none⟩ = some (.string (str o.space)) := kcell hb1 (by go_simp)
  have p2 : w1.cell? ⟨w.heap.size, 2, none⟩ = some (.string (str o.name)) := kcell hb1 (by go_simp)
  have p3 : w1.cell? ⟨w.heap.size, 3, none⟩ = some (.slice A1 n1 c1) := kcell hb1 (by go_simp)
  have p4 : w1.cell? ⟨w.heap.size, 4, none⟩ = some (.slice A2 n2 c2) := kcell hb1 (by go_simp)
  have hz1 : w.heap.size < w1.heap.size := by have := hb1.size; simp at this; omega
  replace hb1 : Below w.heap.size w w1 := Below.trans (by repeat (first | exact Below.refl _ _ | assumption | refine Below.drew ?_ | refine below_drewN ?_ _ | refine Below.alloc ?_ (by first | (simp; done) | omega | (simp; omega)) _ | refine Below.setCell ?_ (by first | (simp; done) | omega | (simp; omega)) _)) (hb1.mono (by simp))
  have hg1 : w.grownBy w1 (A.map (·.block)) := grow_of_below hb1
  cases res with
  | false =>
    have h0 := HR.out.symm.trans (putD_own HOWN.out)
    subst h0
    go_wp2_with fail
    go_ret2
    exact ⟨_, _, _, rfl, Own.nil, hg1, Wh.nil _ _⟩
  | true =>
    have hown1 := HO.out.after hb1
    go_wp2_with fail
    refine (put_any (o.id : Int) 2 _ (by omega) (by omega) (by omega) (by omega)).mono ?_
    rintro e w2 ⟨B2, m2, d2, rfl, ho2, hb2⟩
    have hown2 := hown1.after hb2
    have hz2 := hb2.size
    have hlid : (enc 2 ((o.id : Int)).toNat).length = 2 := enc_length _ _
    have hid2 : ((o.id : Int)).toNat = o.id := by omega
    have hnp := nD_pos (d + 1) o
    have HNS : Hid (∀ b, (S b ∧ b < w.heap.size) → some b ≠ A.map (·.block)) := fun b h e => HS0.out b h.1 e.symm
    by_cases c0 : o.id = 0
    · rw [c0] at p0
      rcases putD_0 HOWN.out c0 HR.out with ⟨e0, hr, ht⟩ | ⟨t0, hr, ht⟩
      all_goals
        subst hr
        clear HR
        have HT := Lib.hid ht; clear ht
        go_wp2_with (first | (at_builtin; refine wpList_appw rfl _ _ rfl base _ _ _ _ rfl hown2 _ _ _ _ _ rfl ho2.sl (by have := HZ.out; omega) (by omega) ?_; intro A3 m3 c3 w3 hown3 hg3 hw3; have hg13 : w1.grownBy w3 (A.map (·.block)) := grow_seq (grow_of_below (row := A.map (·.block)) hb2) hg3 fun j e => .inr e; have r0 := gcx hg13 HAX.out p0; have r1 := gcx hg13 HAX.out p1; have r2 := gcx hg13 HAX.out p2; have r3 := gcx hg13 HAX.out p3; have r4 := gcx hg13 HAX.out p4))
        have hW3 : Wh w1.heap.size A A3 := Wh.seq (Wh.refl w1.heap.size A) hw3 (by omega)
        have hz3 := hg13.size
        rw [hid2] at hown3
        have hlid0 : (enc 2 o.id).length = 2 := enc_length _ _
        refine (otexts_any (l := [o.name]) (hown3.alloc _) (by simp; omega) (arr_new _ #[.string (str o.name)] [o.name] 1 ⟨[_], [], rfl, rfl, ⟨rfl, by omega⟩, rfl⟩ rfl (by decide) (by simp)) (fun b (hb : b = _) e => by have := (hown3.block b e).2; omega) (by have := HZ.out; rw [List.length_append, hlid0]; simp only [List.length_cons, List.length_nil]; omega) _ HT.out).mono ?_
        rintro e w4 ⟨A4, m4, c4, rfl, ho4, hg4, hw4⟩
        have hg14 : w1.grownBy w4 (A.map (·.block)) := grow_seq (grow_seq hg13 (grow_of_below (row := A.map (·.block)) (by repeat (first | exact Below.refl _ _ | assumption | refine Below.drew ?_ | refine below_drewN ?_ _ | refine Below.alloc ?_ (by first | (simp; done) | omega | (simp; omega)) _ | refine Below.setCell ?_ (by first | (simp; done) | omega | (simp; omega)) _))) fun j e => .inr e) hg4 fun j e => (hW3 j e).symm
        have hW4 : Wh w1.heap.size A A4 := hW3.seq hw4 (by simp; omega)
        have hz4 := hg14.size
        go_wp2_with fail
        go_ret2
        exact ⟨_, _, _, rfl, own_as ho4 (by simp [outB, c0]), grow_seq hg1 hg14 fun j e => .inr e, fun b h => by rcases hW4 b h with h | h; exact .inl h; right; omega⟩
    · by_cases c1 : o.id = 48
      · have hcw : cntW o.id o.kids.length = enc 2 o.kids.length := by unfold cntW; rw [if_pos (by omega)]
        obtain ⟨rt, hrt⟩ : ∃ rt, headW o.id (o.space, o.name) = rt := ⟨_, rfl⟩
        have ht : putsM text [o.space, o.name] = rt := by rw [head_48, ← c1]; exact hrt
        have HT := Lib.hid ht; clear ht
        have HH := Lib.hid hrt; clear hrt
        rw [c1] at p0
        go_wp2_with (first | (at_builtin; refine wpList_appw rfl _ _ rfl base _ _ _ _ rfl hown2 _ _ _ _ _ rfl ho2.sl (by have := HZ.out; omega) (by omega) ?_; intro A3 m3 c3 w3 hown3 hg3 hw3; have hg13 : w1.grownBy w3 (A.map (·.block)) := grow_seq (grow_of_below (row := A.map (·.block)) hb2) hg3 fun j e => .inr e; have r0 := gcx hg13 HAX.out p0; have r1 := gcx hg13 HAX.out p1; have r2 := gcx hg13 HAX.out p2; have r3 := gcx hg13 HAX.out p3; have r4 := gcx hg13 HAX.out p4))
        have hW3 : Wh w1.heap.size A A3 := Wh.seq (Wh.refl w1.heap.size A) hw3 (by omega)
        have hz3 := hg13.size
        rw [hid2] at hown3
        have hlid0 : (enc 2 o.id).length = 2 := enc_length _ _
        refine (otexts_any (l := [o.space, o.name]) (hown3.alloc _) (by simp; omega) (arr_new _ #[.string (str o.space), .string (str o.name)] [o.space, o.name] 2 ⟨[_], [_], rfl, rfl, ⟨rfl, by omega⟩, [_], [], rfl, rfl, ⟨rfl, by omega⟩, rfl⟩ rfl (by decide) (by simp)) (fun b (hb : b = _) e => by have := (hown3.block b e).2; omega) (by have := HZ.out; rw [List.length_append, hlid0]; simp only [List.length_cons, List.length_nil]; omega) rt HT.out).mono ?_
        rintro e w4 ⟨A4, m4, c4, rfl, ho4, hg4, hw4⟩
        have hg14 : w1.grownBy w4 (A.map (·.block)) := grow_seq (grow_seq hg13 (grow_of_below (row := A.map (·.block)) (by repeat (first | exact Below.refl _ _ | assumption | refine Below.drew ?_ | refine below_drewN ?_ _ | refine Below.alloc ?_ (by first | (simp; done) | omega | (simp; omega)) _ | refine Below.setCell ?_ (by first | (simp; done) | omega | (simp; omega)) _))) fun j e => .inr e) hg4 fun j e => (hW3 j e).symm
        have hW4 : Wh w1.heap.size A A4 := hW3.seq hw4 (by simp; omega)
        have hz4 := hg14.size
        have u4 := gcx hg14 HAX.out p4
        cases rt with
        | error e1 =>
          have hne : e1 ≠ 0 := headW_ne HH.out
          obtain rfl := HR.out.symm.trans (putD_herr HOWN.out HH.out)
          go_wp2_with fail
          go_ret2
          exact ⟨_, _, _, rfl, Own.nil, grow_seq hg1 hg14 fun j e => .inr e, Wh.nil _ _⟩
        | ok y0 =>
          by_cases cb : 65535 < n2
          · obtain rfl := HR.out.symm.trans (putD_big HOWN.out HH.out ⟨by omega, by have := HL2.out; omega⟩)
            go_wp2_with fail
            go_ret2
            exact ⟨_, _, _, rfl, Own.nil, grow_seq hg1 hg14 fun j e => .inr e, Wh.nil _ _⟩
          · have HBIG : Hid (¬ (48 ≤ o.id ∧ 65535 < o.kids.length)) := fun h => by have := HL2.out; omega
            go_wp2_with fail
            refine (put_any (n2 : Int) 2 _ (by omega) (by omega) (by omega) (by omega)).mono ?_
            rintro e w5 ⟨B5, m5, d5, rfl, ho5, hb5⟩
            have hown5 := ho4.after hb5
            have hz5 := hb5.size
            have hl5 : (enc 2 ((n2 : Int)).toNat).length = 2 := enc_length _ _
            have hn5 : ((n2 : Int)).toNat = o.kids.length := by have := HL2.out; omega
            have hg15 : w1.grownBy w5 (A.map (·.block)) := grow_seq hg14 (grow_of_below (row := A.map (·.block)) hb5) fun j e => .inr e
            have s4 := gcx hg15 HAX.out p4
            go_wp2_with (first | (at_builtin; refine wpList_appw rfl _ _ rfl base _ _ _ _ rfl hown5 _ _ _ _ _ rfl ho5.sl (by have := HZ.out; have := headW_len HH.out; simp only [outB, List.length_append, enc_length] at *; omega) (by omega) ?_; intro A6 m6 c6 w6 hown6 hg6 hw6; have hg16 : w1.grownBy w6 (A.map (·.block)) := grow_seq hg15 hg6 fun j e => (hW4 j e).symm; have t4 := gcx hg16 HAX.out p4))
            have hW6 : Wh w1.heap.size A A6 := hW4.seq hw6 (by omega)
            have hz6 := hg16.size
            rw [hn5] at hown6
            have hownL : Own base w6 A6 m6 c6 (bs ++ (enc 2 o.id ++ (y0 ++ cntW o.id o.kids.length))) := own_as hown6 (by rw [hcw]; simp [outB])
            have hp0 : ((enc 2 o.id ++ (y0 ++ cntW o.id o.kids.length))).length ≤ 131078 := by have := headW_len HH.out; have := cntW_len o.id o.kids.length; simp only [List.length_append, enc_length, List.length_nil] at *; omega
            have HP0 := Lib.hid hp0; clear hp0
            go_loopw [0, 60] (fun u i wr => ∃ k A5 m5 c5 pre, k ≤ n2 ∧ i = .int .i64 (k : Nat) ∧ u = .slice A5 m5 c5 ∧ Hid (putsM (kidW (putD d) o.id) ((kidsO o).take k) = .ok pre) ∧ Own base wr A5 m5 c5 (bs ++ ((enc 2 o.id ++ (y0 ++ cntW o.id o.kids.length)) ++ pre)) ∧ w1.grownBy wr (A.map (·.block)) ∧ Wh w1.heap.size A A5) (fun _ i _ => n2 - (intOf i).toNat)
            case atStart => exact ⟨0, _, _, _, [], by omega, rfl, rfl, rfl, own_as hownL (by simp), hg16, hW6⟩
            case round =>
              obtain ⟨k, A5, m5, c5, pre, hk, rfl, rfl, HK, hownr, hgr, hWr⟩ := hrel
              have hzr := hgr.size
              have hzw : w.heap.size < wr.heap.size := by omega
              have hgw : w.grownBy wr (A.map (·.block)) := grow_seq hg1 hgr fun j e => .inr e
              by_cases hlt : k < n2
              · obtain ⟨x, hx⟩ : ∃ x, o.kids[k]? = some x := ⟨_, List.getElem?_eq_getElem (by have := HL2.out; omega)⟩
                have HS1 := Lib.hid (HOR.out.kids.grown hgw HNS.out)
                obtain ⟨b, off, rfl, hSb, hbs, HC⟩ := HS1.out.at (by decide) (by omega)
                obtain ⟨v, hv1, hp, hv2⟩ := HC k x hx
                obtain ⟨e, B1, n6, d1, B4, n7, d4, rfl, rfl, hR⟩ := hp.open
                have hc0 := hv2 0 _ rfl
                have hc1 := hv2 1 _ rfl
                have hc2 := hv2 2 _ rfl
                have hc3 := hv2 3 _ rfl
                have hc4 := hv2 4 _ rfl
                simp only [Nat.add_zero] at hc0
                clear hv1 hv2 HC
                have HX := Lib.hid hx; clear hx
                have HR2 := Lib.hid hR; clear hR
                have HRM := Lib.hid (kid_room HOWN.out HK HX.out)
                obtain ⟨q, hq⟩ : ∃ q, putD (e + 1) x = q := ⟨_, rfl⟩
                have HQ := Lib.hid hq; clear hq
                have q0 := gcx hgr HAX.out p0
                have q3 := gcx hgr HAX.out p3
                have hS5 : ∀ b, (S b ∧ b < w.heap.size) → A5.map (·.block) ≠ some b := fun b h e => by rcases hWr b e with h1 | h1; exact HS0.out b h.1 h1; omega
                have HS5 := Lib.hid hS5; clear hS5
                have h05 : A5.map (·.block) ≠ some 0 := fun e => by rcases hWr 0 e with h1 | h1; exact HA0.out h1; omega
                have H05 := Lib.hid h05; clear h05
                obtain ⟨s, hs⟩ : ∃ s, o.names[k]? = some s := ⟨_, List.getElem?_eq_getElem (by have := HL2.out; have := own_48 HOWN.out c1; omega)⟩
                have hlt1 : k < n1 := by have := HL2.out; have := HL1.out; have := own_48 HOWN.out c1; omega
                have HS2 := Lib.hid (HOR.out.names.grown hgw HNS.out)
                obtain ⟨b2, off2, rfl, hSb2, hbs2, HC2⟩ := HS2.out.at (by decide) (by omega)
                obtain ⟨v2, hv3, ⟨rfl, hsl⟩, hv4⟩ := HC2 k s hs
                have hcn := hv4 0 _ rfl
                simp only [Nat.mul_one, Nat.add_zero] at hcn
                clear hv3 hv4 HC2
                have HKG := Lib.hid (kidsO_48 c1 hs HX.out); clear hs
                obtain ⟨rs, hrs⟩ : ∃ rs, text s = rs := ⟨_, rfl⟩
                have HRS := Lib.hid hrs; clear hrs
                have hpm : putsM text [s] = rs := by simp only [putsM, HRS.out]; cases rs with | error e => rfl | ok t => simp
                have HPM := Lib.hid hpm; clear hpm
                go_wp2_with fail
                refine Calls.mono (otexts_any (l := [s]) (hownr.after (by repeat (first | exact Below.refl _ _ | assumption | refine Below.drew ?_ | refine below_drewN ?_ _ | refine Below.alloc ?_ (by first | (simp; done) | omega | (simp; omega)) _ | refine Below.setCell ?_ (by first | (simp; done) | omega | (simp; omega)) _))) (by simp; omega) (arr_new (g := wr.heap.size + 1) _ #[.string (str s)] [s] 1 ⟨[_], [], rfl, rfl, ⟨rfl, hsl⟩, rfl⟩ rfl (by decide) (by simp)) (fun b (hb : b = _) e => by have := (hownr.block b e).2; simp at hb; omega) (by have := HZ.out; have := HRM.out; have := HP0.out; simp only [List.length_append, List.length_cons, List.length_nil] at *; omega) rs HPM.out) ?_
                rintro e2 w7 ⟨A7, m7, c7, rfl, ho7, hg7, hw7⟩
                have hnx : A5.map (·.block) ≠ some wr.heap.size := fun e => by have := (hownr.block _ e).2; omega
                have k0 := gcx hg7 hnx (b := wr.heap.size) (o := 0) (by go_simp; rfl)
                have k1 : w7.cell? ⟨wr.heap.size, 1, none⟩ = some (.string (str x.space)) := gcx hg7 hnx (by go_simp)
                have k2 : w7.cell? ⟨wr.heap.size, 2, none⟩ = some (.string (str x.name)) := gcx hg7 hnx (by go_simp)
                have k3 : w7.cell? ⟨wr.heap.size, 3, none⟩ = some (.slice B1 n6 d1) := gcx hg7 hnx (by go_simp)
                have k4 : w7.cell? ⟨wr.heap.size, 4, none⟩ = some (.slice B4 n7 d4) := gcx hg7 hnx (by go_simp)
                have hg17 : w1.grownBy w7 (A.map (·.block)) := grow_seq (grow_seq hgr (grow_of_below (row := A.map (·.block)) (by repeat (first | exact Below.refl _ _ | assumption | refine Below.drew ?_ | refine below_drewN ?_ _ | refine Below.alloc ?_ (by first | (simp; done) | omega | (simp; omega)) _ | refine Below.setCell ?_ (by first | (simp; done) | omega | (simp; omega)) _))) fun j e => .inr e) hg7 fun j e => (hWr j e).symm
                have hW7 : Wh w1.heap.size A A7 := hWr.seq hw7 (by simp; omega)
                have hz7 := hg17.size
                clear hc0 hc1 hc2 hc3 hc4 q0 q3 hcn
                cases rs with
                | error es =>
                  have hne : es ≠ 0 := text_ne HRS.out
                  have h0 := putsM_stop HK HKG.out (by unfold kidW nameW; rw [if_pos c1, HRS.out]; rfl : kidW (putD (e + 1)) o.id (s, x) = .error es)
                  obtain rfl := HR.out.symm.trans (putD_kerr HOWN.out HH.out HBIG.out h0)
                  go_wp2_with fail
                  go_ret2
                  exact ⟨_, _, _, rfl, Own.nil, grow_seq hg1 hg17 fun j e => .inr e, Wh.nil _ _⟩
                | ok t =>
                  have htl := (text_len HRS.out).1
                  have hgw7 : w.grownBy w7 (A.map (·.block)) := grow_seq hg1 hg17 fun j e => .inr e
                  have hS7 : ∀ b, (S b ∧ b < w.heap.size) → A7.map (·.block) ≠ some b := fun b h e => by rcases hW7 b e with h1 | h1; exact HS0.out b h.1 h1; omega
                  have HS7 := Lib.hid hS7; clear hS7
                  have h07 : A7.map (·.block) ≠ some 0 := fun e => by rcases hW7 0 e with h1 | h1; exact HA0.out h1; omega
                  have H07 := Lib.hid h07; clear h07
                  go_wp2_with fail
                  refine Calls.mono (ih e (by omega) ho7 (by omega) (HR2.out.grown hgw7 HNS.out) HS7.out hM (HPL.out.grown hgw7 HA0.out) H07.out (by have := HZ.out; have := HRM.out; have := HP0.out; simp only [outB, List.length_append] at *; omega) q HQ.out) ?_
                  rintro e3 w8 ⟨A8, m8, c8, rfl, ho8, hg8, hw8⟩
                  have hg18 : w1.grownBy w8 (A.map (·.block)) := grow_seq hg17 hg8 fun j e => (hW7 j e).symm
                  have hW8 : Wh w1.heap.size A A8 := hW7.seq hw8 (by omega)
                  clear k0 k1 k2 k3 k4
                  cases q with
                  | error eq =>
                    have hne : eq ≠ 0 := putD_ne HQ.out
                    have h0 := putsM_stop HK HKG.out (by unfold kidW nameW; rw [if_pos c1, HRS.out, HQ.out]; rfl : kidW (putD (e + 1)) o.id (s, x) = .error eq)
                    obtain rfl := HR.out.symm.trans (putD_kerr HOWN.out HH.out HBIG.out h0)
                    go_wp2_with fail
                    go_ret2
                    exact ⟨_, _, _, rfl, Own.nil, grow_seq hg1 hg18 fun j e => .inr e, Wh.nil _ _⟩
                  | ok y =>
                    have HK2 := putsM_take HK HKG.out (by unfold kidW nameW; rw [if_pos c1, HRS.out, HQ.out]; rfl : kidW (putD (e + 1)) o.id (s, x) = .ok (t ++ y))
                    go_wp2_with fail
                    refine ⟨⟨k + 1, A8, m8, c8, pre ++ (t ++ y), by omega, by go_num, rfl, HK2, own_as ho8 (by simp [outB]), hg18, hW8⟩, by simp [intOf]; omega⟩
              · obtain rfl : k = n2 := by omega
                have h0 : putsM (kidW (putD d) o.id) (kidsO o) = .ok pre := by have := HK; rwa [List.take_of_length_le (by have := HL2.out; rw [kidsO_len HOWN.out]; omega)] at this
                obtain rfl := HR.out.symm.trans (putD_kok HOWN.out HH.out HBIG.out h0)
                go_wp2_with fail
                go_ret2
                exact ⟨_, _, _, rfl, own_as hownr (by simp [outB]), grow_seq hg1 hgr fun j e => .inr e, fun b h => by rcases hWr b h with h | h; exact .inl h; right; omega⟩
      · have HH := Lib.hid (head_no (p := (o.space, o.name)) c1 c0)
        by_cases c2 : o.id = 49
        · have hcw : cntW o.id o.kids.length = enc 2 o.kids.length := by unfold cntW; rw [if_pos (by omega)]
          rw [c2] at p0
          by_cases cb : 65535 < n2
          · obtain rfl := HR.out.symm.trans (putD_big HOWN.out HH.out ⟨by omega, by have := HL2.out; omega⟩)
            go_wp2_with (first | (at_builtin; refine wpList_appw rfl _ _ rfl base _ _ _ _ rfl hown2 _ _ _ _ _ rfl ho2.sl (by have := HZ.out; omega) (by omega) ?_; intro A3 m3 c3 w3 hown3 hg3 hw3; have hg13 : w1.grownBy w3 (A.map (·.block)) := grow_seq (grow_of_below (row := A.map (·.block)) hb2) hg3 fun j e => .inr e; have r0 := gcx hg13 HAX.out p0; have r1 := gcx hg13 HAX.out p1; have r2 := gcx hg13 HAX.out p2; have r3 := gcx hg13 HAX.out p3; have r4 := gcx hg13 HAX.out p4))
            have hW3 : Wh w1.heap.size A A3 := Wh.seq (Wh.refl w1.heap.size A) hw3 (by omega)
            have hz3 := hg13.size
            rw [hid2] at hown3
            go_ret2
            exact ⟨_, _, _, rfl, Own.nil, grow_seq hg1 hg13 fun j e => .inr e, Wh.nil _ _⟩
          · have HBIG : Hid (¬ (48 ≤ o.id ∧ 65535 < o.kids.length)) := fun h => by have := HL2.out; omega
            go_wp2_with (first | (at_builtin; refine wpList_appw rfl _ _ rfl base _ _ _ _ rfl hown2 _ _ _ _ _ rfl ho2.sl (by have := HZ.out; omega) (by omega) ?_; intro A3 m3 c3 w3 hown3 hg3 hw3; have hg13 : w1.grownBy w3 (A.map (·.block)) := grow_seq (grow_of_below (row := A.map (·.block)) hb2) hg3 fun j e => .inr e; have r0 := gcx hg13 HAX.out p0; have r1 := gcx hg13 HAX.out p1; have r2 := gcx hg13 HAX.out p2; have r3 := gcx hg13 HAX.out p3; have r4 := gcx hg13 HAX.out p4))
            have hW3 : Wh w1.heap.size A A3 := Wh.seq (Wh.refl w1.heap.size A) hw3 (by omega)
            have hz3 := hg13.size
            rw [hid2] at hown3
            refine (put_any (n2 : Int) 2 _ (by omega) (by omega) (by omega) (by omega)).mono ?_
            rintro e w5 ⟨B5, m5, d5, rfl, ho5, hb5⟩
            have hown5 := hown3.after hb5
            have hz5 := hb5.size
            have hl5 : (enc 2 ((n2 : Int)).toNat).length = 2 := enc_length _ _
            have hn5 : ((n2 : Int)).toNat = o.kids.length := by have := HL2.out; omega
            have hg15 : w1.grownBy w5 (A.map (·.block)) := grow_seq hg13 (grow_of_below (row := A.map (·.block)) hb5) fun j e => .inr e
            have s4 := gcx hg15 HAX.out p4
            go_wp2_with (first | (at_builtin; refine wpList_appw rfl _ _ rfl base _ _ _ _ rfl hown5 _ _ _ _ _ rfl ho5.sl (by have := HZ.out; have := headW_len HH.out; simp only [outB, List.length_append, enc_length] at *; omega) (by omega) ?_; intro A6 m6 c6 w6 hown6 hg6 hw6; have hg16 : w1.grownBy w6 (A.map (·.block)) := grow_seq hg15 hg6 fun j e => (hW3 j e).symm; have t4 := gcx hg16 HAX.out p4))
            have hW6 : Wh w1.heap.size A A6 := hW3.seq hw6 (by omega)
            have hz6 := hg16.size
            rw [hn5] at hown6
            have hownL : Own base w6 A6 m6 c6 (bs ++ (enc 2 o.id ++ ([] ++ cntW o.id o.kids.length))) := own_as hown6 (by rw [hcw]; simp [outB])
            have hp0 : ((enc 2 o.id ++ ([] ++ cntW o.id o.kids.length))).length ≤ 131078 := by have := headW_len HH.out; have := cntW_len o.id o.kids.length; simp only [List.length_append, enc_length, List.length_nil] at *; omega
            have HP0 := Lib.hid hp0; clear hp0
            go_loopw [0, 60] (fun u i wr => ∃ k A5 m5 c5 pre, k ≤ n2 ∧ i = .int .i64 (k : Nat) ∧ u = .slice A5 m5 c5 ∧ Hid (putsM (kidW (putD d) o.id) ((kidsO o).take k) = .ok pre) ∧ Own base wr A5 m5 c5 (bs ++ ((enc 2 o.id ++ ([] ++ cntW o.id o.kids.length)) ++ pre)) ∧ w1.grownBy wr (A.map (·.block)) ∧ Wh w1.heap.size A A5) (fun _ i _ => n2 - (intOf i).toNat)
            case atStart => exact ⟨0, _, _, _, [], by omega, rfl, rfl, rfl, own_as hownL (by simp), hg16, hW6⟩
            case round =>
              obtain ⟨k, A5, m5, c5, pre, hk, rfl, rfl, HK, hownr, hgr, hWr⟩ := hrel
              have hzr := hgr.size
              have hzw : w.heap.size < wr.heap.size := by omega
              have hgw : w.grownBy wr (A.map (·.block)) := grow_seq hg1 hgr fun j e => .inr e
              by_cases hlt : k < n2
              · obtain ⟨x, hx⟩ : ∃ x, o.kids[k]? = some x := ⟨_, List.getElem?_eq_getElem (by have := HL2.out; omega)⟩
                have HS1 := Lib.hid (HOR.out.kids.grown hgw HNS.out)
                obtain ⟨b, off, rfl, hSb, hbs, HC⟩ := HS1.out.at (by decide) (by omega)
                obtain ⟨v, hv1, hp, hv2⟩ := HC k x hx
                obtain ⟨e, B1, n6, d1, B4, n7, d4, rfl, rfl, hR⟩ := hp.open
                have hc0 := hv2 0 _ rfl
                have hc1 := hv2 1 _ rfl
                have hc2 := hv2 2 _ rfl
                have hc3 := hv2 3 _ rfl
                have hc4 := hv2 4 _ rfl
                simp only [Nat.add_zero] at hc0
                clear hv1 hv2 HC
                have HX := Lib.hid hx; clear hx
                have HR2 := Lib.hid hR; clear hR
                have HRM := Lib.hid (kid_room HOWN.out HK HX.out)
                obtain ⟨q, hq⟩ : ∃ q, putD (e + 1) x = q := ⟨_, rfl⟩
                have HQ := Lib.hid hq; clear hq
                have q0 := gcx hgr HAX.out p0
                have q3 := gcx hgr HAX.out p3
                have hS5 : ∀ b, (S b ∧ b < w.heap.size) → A5.map (·.block) ≠ some b := fun b h e => by rcases hWr b e with h1 | h1; exact HS0.out b h.1 h1; omega
                have HS5 := Lib.hid hS5; clear hS5
                have h05 : A5.map (·.block) ≠ some 0 := fun e => by rcases hWr 0 e with h1 | h1; exact HA0.out h1; omega
                have H05 := Lib.hid h05; clear h05
                have HKG := Lib.hid (kidsO_no c1 HX.out)
                go_wp2_with fail
                refine Calls.mono (ih e (by omega) (hownr.after (by repeat (first | exact Below.refl _ _ | assumption | refine Below.drew ?_ | refine below_drewN ?_ _ | refine Below.alloc ?_ (by first | (simp; done) | omega | (simp; omega)) _ | refine Below.setCell ?_ (by first | (simp; done) | omega | (simp; omega)) _))) (by simp; omega) ((HR2.out.grown hgw HNS.out).after (by repeat (first | exact Below.refl _ _ | assumption | refine Below.drew ?_ | refine below_drewN ?_ _ | refine Below.alloc ?_ (by first | (simp; done) | omega | (simp; omega)) _ | refine Below.setCell ?_ (by first | (simp; done) | omega | (simp; omega)) _))) HS5.out hM ((HPL.out.grown hgw HA0.out).after (by repeat (first | exact Below.refl _ _ | assumption | refine Below.drew ?_ | refine below_drewN ?_ _ | refine Below.alloc ?_ (by first | (simp; done) | omega | (simp; omega)) _ | refine Below.setCell ?_ (by first | (simp; done) | omega | (simp; omega)) _))) H05.out (by have := HZ.out; have := HRM.out; have := HP0.out; simp only [List.length_append] at *; omega) q HQ.out) ?_
                rintro e2 w8 ⟨A8, m8, c8, rfl, ho8, hg8, hw8⟩
                have hg18 : w1.grownBy w8 (A.map (·.block)) := grow_seq (grow_seq hgr (grow_of_below (row := A.map (·.block)) (by repeat (first | exact Below.refl _ _ | assumption | refine Below.drew ?_ | refine below_drewN ?_ _ | refine Below.alloc ?_ (by first | (simp; done) | omega | (simp; omega)) _ | refine Below.setCell ?_ (by first | (simp; done) | omega | (simp; omega)) _))) fun j e => .inr e) hg8 fun j e => (hWr j e).symm
                have hW8 : Wh w1.heap.size A A8 := hWr.seq hw8 (by simp; omega)
                cases q with
                | error eq =>
                  have hne : eq ≠ 0 := putD_ne HQ.out
                  have h0 := putsM_stop HK HKG.out (by unfold kidW nameW; rw [if_neg c1, HQ.out]; rfl : kidW (putD (e + 1)) o.id ([], x) = .error eq)
                  obtain rfl := HR.out.symm.trans (putD_kerr HOWN.out HH.out HBIG.out h0)
                  go_wp2_with fail
                  go_ret2
                  exact ⟨_, _, _, rfl, Own.nil, grow_seq hg1 hg18 fun j e => .inr e, Wh.nil _ _⟩
                | ok y =>
                  have HK2 := putsM_take HK HKG.out (by unfold kidW nameW; rw [if_neg c1, HQ.out]; rfl : kidW (putD (e + 1)) o.id ([], x) = .ok y)
                  go_wp2_with fail
                  refine ⟨⟨k + 1, A8, m8, c8, pre ++ y, by omega, by go_num, rfl, HK2, own_as ho8 (by simp [outB]), hg18, hW8⟩, by simp [intOf]; omega⟩
              · obtain rfl : k = n2 := by omega
                have h0 : putsM (kidW (putD d) o.id) (kidsO o) = .ok pre := by have := HK; rwa [List.take_of_length_le (by have := HL2.out; rw [kidsO_len HOWN.out]; omega)] at this
                obtain rfl := HR.out.symm.trans (putD_kok HOWN.out HH.out HBIG.out h0)
                go_wp2_with fail
                go_ret2
                exact ⟨_, _, _, rfl, own_as hownr (by simp [outB]), grow_seq hg1 hgr fun j e => .inr e, fun b h => by rcases hWr b h with h | h; exact .inl h; right; omega⟩
        · have hle : ¬ 48 ≤ o.id := fun h => by
            have h1 := kn_lt (own_id HOWN.out)
            omega
          have hcw : cntW o.id o.kids.length = [] := by unfold cntW; rw [if_neg hle]
          have HBIG : Hid (¬ (48 ≤ o.id ∧ 65535 < o.kids.length)) := fun h => hle h.1
          go_wp2_with (first | (at_builtin; refine wpList_appw rfl _ _ rfl base _ _ _ _ rfl hown2 _ _ _ _ _ rfl ho2.sl (by have := HZ.out; omega) (by omega) ?_; intro A3 m3 c3 w3 hown3 hg3 hw3; have hg13 : w1.grownBy w3 (A.map (·.block)) := grow_seq (grow_of_below (row := A.map (·.block)) hb2) hg3 fun j e => .inr e; have r0 := gcx hg13 HAX.out p0; have r1 := gcx hg13 HAX.out p1; have r2 := gcx hg13 HAX.out p2; have r3 := gcx hg13 HAX.out p3; have r4 := gcx hg13 HAX.out p4))
          have hW3 : Wh w1.heap.size A A3 := Wh.seq (Wh.refl w1.heap.size A) hw3 (by omega)
          have hz3 := hg13.size
          rw [hid2] at hown3
          have hownL : Own base w3 A3 m3 c3 (bs ++ (enc 2 o.id ++ ([] ++ cntW o.id o.kids.length))) := own_as hown3 (by rw [hcw]; simp)
          have hp0 : ((enc 2 o.id ++ ([] ++ cntW o.id o.kids.length))).length ≤ 131078 := by have := headW_len HH.out; have := cntW_len o.id o.kids.length; simp only [List.length_append, enc_length, List.length_nil] at *; omega
          have HP0 := Lib.hid hp0; clear hp0
          go_loopw [0, 60] (fun u i wr => ∃ k A5 m5 c5 pre, k ≤ n2 ∧ i = .int .i64 (k : Nat) ∧ u = .slice A5 m5 c5 ∧ Hid (putsM (kidW (putD d) o.id) ((kidsO o).take k) = .ok pre) ∧ Own base wr A5 m5 c5 (bs ++ ((enc 2 o.id ++ ([] ++ cntW o.id o.kids.length)) ++ pre)) ∧ w1.grownBy wr (A.map (·.block)) ∧ Wh w1.heap.size A A5) (fun _ i _ => n2 - (intOf i).toNat)
          case atStart => exact ⟨0, _, _, _, [], by omega, rfl, rfl, rfl, own_as hownL (by simp), hg13, hW3⟩
          case round =>
            obtain ⟨k, A5, m5, c5, pre, hk, rfl, rfl, HK, hownr, hgr, hWr⟩ := hrel
            have hzr := hgr.size
            have hzw : w.heap.size < wr.heap.size := by omega
            have hgw : w.grownBy wr (A.map (·.block)) := grow_seq hg1 hgr fun j e => .inr e
            by_cases hlt : k < n2
            · obtain ⟨x, hx⟩ : ∃ x, o.kids[k]? = some x := ⟨_, List.getElem?_eq_getElem (by have := HL2.out; omega)⟩
              have HS1 := Lib.hid (HOR.out.kids.grown hgw HNS.out)
              obtain ⟨b, off, rfl, hSb, hbs, HC⟩ := HS1.out.at (by decide) (by omega)
              obtain ⟨v, hv1, hp, hv2⟩ := HC k x hx
              obtain ⟨e, B1, n6, d1, B4, n7, d4, rfl, rfl, hR⟩ := hp.open
              have hc0 := hv2 0 _ rfl
              have hc1 := hv2 1 _ rfl
              have hc2 := hv2 2 _ rfl
              have hc3 := hv2 3 _ rfl
              have hc4 := hv2 4 _ rfl
              simp only [Nat.add_zero] at hc0
              clear hv1 hv2 HC
              have HX := Lib.hid hx; clear hx
              have HR2 := Lib.hid hR; clear hR
              have HRM := Lib.hid (kid_room HOWN.out HK HX.out)
              obtain ⟨q, hq⟩ : ∃ q, putD (e + 1) x = q := ⟨_, rfl⟩
              have HQ := Lib.hid hq; clear hq
              have q0 := gcx hgr HAX.out p0
              have q3 := gcx hgr HAX.out p3
              have hS5 : ∀ b, (S b ∧ b < w.heap.size) → A5.map (·.block) ≠ some b := fun b h e => by rcases hWr b e with h1 | h1; exact HS0.out b h.1 h1; omega
              have HS5 := Lib.hid hS5; clear hS5
              have h05 : A5.map (·.block) ≠ some 0 := fun e => by rcases hWr 0 e with h1 | h1; exact HA0.out h1; omega
              have H05 := Lib.hid h05; clear h05
              have HKG := Lib.hid (kidsO_no c1 HX.out)
              go_wp2_with fail
              refine Calls.mono (ih e (by omega) (hownr.after (by repeat (first | exact Below.refl _ _ | assumption | refine Below.drew ?_ | refine below_drewN ?_ _ | refine Below.alloc ?_ (by first | (simp; done) | omega | (simp; omega)) _ | refine Below.setCell ?_ (by first | (simp; done) | omega | (simp; omega)) _))) (by simp; omega) ((HR2.out.grown hgw HNS.out).after (by repeat (first | exact Below.refl _ _ | assumption | refine Below.drew ?_ | refine below_drewN ?_ _ | refine Below.alloc ?_ (by first | (simp; done) | omega | (simp; omega)) _ | refine Below.setCell ?_ (by first | (simp; done) | omega | (simp; omega)) _))) HS5.out hM ((HPL.out.grown hgw HA0.out).after (by repeat (first | exact Below.refl _ _ | assumption | refine Below.drew ?_ | refine below_drewN ?_ _ | refine Below.alloc ?_ (by first | (simp; done) | omega | (simp; omega)) _ | refine Below.setCell ?_ (by first | (simp; done) | omega | (simp; omega)) _))) H05.out (by have := HZ.out; have := HRM.out; have := HP0.out; simp only [List.length_append] at *; omega) q HQ.out) ?_
              rintro e2 w8 ⟨A8, m8, c8, rfl, ho8, hg8, hw8⟩
              have hg18 : w1.grownBy w8 (A.map (·.block)) := grow_seq (grow_seq hgr (grow_of_below (row := A.map (·.block)) (by repeat (first | exact Below.refl _ _ | assumption | refine Below.drew ?_ | refine below_drewN ?_ _ | refine Below.alloc ?_ (by first | (simp; done) | omega | (simp; omega)) _ | refine Below.setCell ?_ (by first | (simp; done) | omega | (simp; omega)) _))) fun j e => .inr e) hg8 fun j e => (hWr j e).symm
              have hW8 : Wh w1.heap.size A A8 := hWr.seq hw8 (by simp; omega)
              cases q with
              | error eq =>
                have hne : eq ≠ 0 := putD_ne HQ.out
                have h0 := putsM_stop HK HKG.out (by unfold kidW nameW; rw [if_neg c1, HQ.out]; rfl : kidW (putD (e + 1)) o.id ([], x) = .error eq)
                obtain rfl := HR.out.symm.trans (putD_kerr HOWN.out HH.out HBIG.out h0)
                go_wp2_with fail
                go_ret2
                exact ⟨_, _, _, rfl, Own.nil, grow_seq hg1 hg18 fun j e => .inr e, Wh.nil _ _⟩
              | ok y =>
                have HK2 := putsM_take HK HKG.out (by unfold kidW nameW; rw [if_neg c1, HQ.out]; rfl : kidW (putD (e + 1)) o.id ([], x) = .ok y)
                go_wp2_with fail
                refine ⟨⟨k + 1, A8, m8, c8, pre ++ y, by omega, by go_num, rfl, HK2, own_as ho8 (by simp [outB]), hg18, hW8⟩, by simp [intOf]; omega⟩
            · obtain rfl : k = n2 := by omega
              have h0 : putsM (kidW (putD d) o.id) (kidsO o) = .ok pre := by have := HK; rwa [List.take_of_length_le (by have := HL2.out; rw [kidsO_len HOWN.out]; omega)] at this
              obtain rfl := HR.out.symm.trans (putD_kok HOWN.out HH.out HBIG.out h0)
              go_wp2_with fail
              go_ret2
              exact ⟨_, _, _, rfl, own_as hownr (by simp [outB]), grow_seq hg1 hgr fun j e => .inr e, fun b h => by rcases hWr b h with h | h; exact .inl h; right; omega⟩

set_option maxHeartbeats 2000000 in
set_option maxRecDepth 100000 in
theorem oPut_any {d : Nat} {S : Nat → Prop} {M : Nat} {A1 : Option Addr} {n1 c1 : Nat} {A2 : Option Addr} {n2 c2 : Nat} {o : Opt} {w : World} (ho : OptR S w M d A1 n1 c1 A2 n2 c2 o) (hM : M ≤ 9223372036854775807) (hw : Pl w) (hn : nD (d + 1) o ≤ 1000000) (r : Wr) (hr : putW (d + 1) o = r) :
    Calls Tryd.prog 36 #[optV o A1 n1 c1 A2 n2 c2] w fun e w' => ∃ A' n' c', e = .returned (.tuple #[.slice A' n' c', .int .i64 (werr r)]) ∧ Own w.heap.size w' A' n' c' (wval r) ∧ Below w.heap.size w w' := by
  have HPL := Lib.hid hw; clear hw
  have HR := Lib.hid hr; clear hr
  have HOR := Lib.hid ho.lt; clear ho
  have hdn := Nat.le_trans (depthD_nD (d + 1) o) hn
  have HN := Lib.hid hn; clear hn
  obtain ⟨dep, hdep⟩ : ∃ dep, depthD (d + 1) o = dep := ⟨_, rfl⟩
  rw [hdep] at hdn
  have HD := Lib.hid hdep; clear hdep
  go_enter Tryd.func36, Tryd.ntmps36
  go_wp2_with fail
  refine (depth_any d (HOR.out.after (by repeat (first | exact Below.refl _ _ | assumption | refine Below.drew ?_ | refine below_drewN ?_ _ | refine Below.alloc ?_ (by first | (simp; done) | omega | (simp; omega)) _ | refine Below.setCell ?_ (by first | (simp; done) | omega | (simp; omega)) _))) HN.out).mono ?_
  rintro e w1 ⟨rfl, hb1⟩
  rw [HD.out]
  have p0 : w1.cell? ⟨w.heap.size, 0, none⟩ = some (.int .u16 (o.id : Int)) := kcell hb1 (by go_simp)
  have p1 : w1.cell? ⟨w.heap.size, 1, none⟩ = some (.string (str o.space)) := kcell hb1 (by go_simp)
  have p2 : w1.cell? ⟨w.heap.size, 2, none⟩ = some (.string (str o.name)) := kcell hb1 (by go_simp)
  have p3 : w1.cell? ⟨w.heap.size, 3, none⟩ = some (.slice A1 n1 c1) := kcell hb1 (by go_simp)
  have p4 : w1.cell? ⟨w.heap.size, 4, none⟩ = some (.slice A2 n2 c2) := kcell hb1 (by go_simp)
  replace hb1 : Below w.heap.size w w1 := Below.trans (by repeat (first | exact Below.refl _ _ | assumption | refine Below.drew ?_ | refine below_drewN ?_ _ | refine Below.alloc ?_ (by first | (simp; done) | omega | (simp; omega)) _ | refine Below.setCell ?_ (by first | (simp; done) | omega | (simp; omega)) _)) (hb1.mono (by simp))
  by_cases hdeep : 20 < dep
  · have h0 : putW (d + 1) o = .error 13 := by unfold putW; rw [HD.out, if_pos hdeep]
    obtain rfl := HR.out.symm.trans h0
    go_wp2_with fail
    go_ret2
    exact ⟨_, _, _, rfl, Own.nil, hb1⟩
  · have h0 : putD (d + 1) o = r := by have := HR.out; unfold putW at this; rwa [HD.out, if_neg hdeep] at this
    have H0 := Lib.hid h0; clear h0
    go_wp2_with fail
    refine (oput_any d (base := w.heap.size) (bs := []) (Own.nil) hb1.size (HOR.out.after hb1) (fun b _ e => by cases e) hM (HPL.out.after hb1) (by simp) (by have := HN.out; simp; omega) r H0.out).mono ?_
    rintro e2 w2 ⟨A', n', c', rfl, ho2, hg2, hw2⟩
    have hb2 : Below w.heap.size w w2 := below_grow hb1 hg2 hb1.size (fun b e => by cases e)
    clear p0 p1 p2 p3 p4
    go_wp2_with fail
    go_ret2
    refine ⟨_, _, _, rfl, own_as ho2 ?_, hb2⟩
    cases r <;> simp [outB]
end Go.Proofs.Sb
