/- The walk over signalboxlaw03.MapsRows: true at every input, and nothing that was there has turned. Conditions: none. -/
import Derived.Test.YtfgdohdbabhplaaAwake3
import Derived.Test.YtfgdohdbabhplaaPlaine
import Derived.Test.YtfgdohdbabhplaaArgsc
set_option linter.unusedVariables false
set_option linter.unusedSimpArgs false
namespace Go.Proofs.Sb
open Go.RowKit _root_.Sb

theorem rowP.imp {S S' : Nat → Prop} {w w' : World} {p : List B} {v : List Value} (h : rowP S w p v) (hi : ∀ A n c l, Arr 1 strP S w A n c l → Arr 1 strP S' w' A n c l) : rowP S' w' p v :=
  let ⟨A, n, c, h1, h2⟩ := h; ⟨A, n, c, h1, hi _ _ _ _ h2⟩
theorem rows_move {S T : Nat → Prop} {w w' : World} {A : Option Addr} {n c : Nat} {l : List (List B)} (h : Arr 1 (rowP T w) S w A n c l) (hb : Below w.heap.size w w') : Arr 1 (rowP T w') S w' A n c l :=
  (h.after hb).imp fun _ _ _ h => h.imp fun _ _ _ _ h => h.after hb
theorem enc2_small {x : Nat} (h : x ≤ 20) : enc 2 x = [0, UInt8.ofNat x] := by
  have : x / 256 = 0 := by omega
  simp [enc, encAt, List.range, List.range.loop, this]
theorem rows_len {l : List (List B)} {b : B} (hl : ∀ x ∈ l, x.length ≤ 20) (h : putsM texts l = .ok b) : b.length ≤ l.length * 1310742 :=
  putsM_len (fun x hx b hb => by have := (texts_len hb).1; have := hl x hx; omega) h
theorem putsM_uncons {α : Type} {f : α → Wr} {x : α} {l : List α} {b : B} (h : putsM f (x :: l) = .ok b) : ∃ y z, f x = .ok y ∧ putsM f l = .ok z ∧ b = y ++ z := by
  simp only [putsM] at h
  cases h1 : f x with
  | error e => rw [h1] at h; cases h
  | ok y =>
    rw [h1] at h
    simp only at h
    cases h2 : putsM f l with
    | error e => rw [h2] at h; cases h
    | ok z => rw [h2] at h; injection h with h; exact ⟨y, z, rfl, rfl, h.symm⟩

set_option maxHeartbeats 4000000 in
set_option maxRecDepth 100000 in
theorem mapsRows_any {S S2 : Nat → Prop} {A : Option Addr} {n c : Nat} {l : List (List B)} {w : World} (hl : Arr 1 (rowP S2 w) S w A n c l) :
    Calls Try.prog 7 #[.slice A n c] w fun e w' => e = .returned (.bool true) ∧ Below w.heap.size w w' := by
  have hcap := hl.cap
  have hcm := hl.capMax
  have hlen := Lib.hid hl.len
  have HL := Lib.hid hl; clear hl
  by_cases hbig : 20 < n
  · go_enter Try.func7, Try.ntmps7
    go_wp2_with fail
    refine (awake3 _).mono ?_
    rintro e w1 ⟨rfl, hb1⟩
    go_wp2_with fail
    go_ret
    exact ⟨rfl, hb1⟩
  · go_enter Try.func7, Try.ntmps7
    go_wp2_with fail
    refine (awake3 _).mono ?_
    rintro e w1 ⟨rfl, hb1⟩
    have hz1 := hb1.size
    go_wp2_with fail
    go_loopw [4, 5, 6, 7] (fun o i _ _ wr => ∃ k A2 m2 c2 pre, k ≤ n ∧ i = .int .i64 (k : Nat) ∧ o = .slice A2 m2 c2 ∧ Hid (∀ x ∈ l.take k, x.length ≤ 20) ∧ Hid (putsM texts (l.take k) = .ok pre) ∧ Own w.heap.size wr A2 m2 c2 pre ∧ Below w.heap.size w wr) (fun _ i _ _ _ => n - (intOf i).toNat)
    case atStart => exact ⟨0, none, 0, 0, [], by omega, rfl, rfl, fun x hx => by simp at hx, rfl, Own.nil, hb1⟩
    case round =>
      obtain ⟨k, A2, m2, c2, pre, hk, rfl, rfl, H20, HK, hown, hbel⟩ := hrel
      have hsz := hbel.size
      by_cases hlt : k < n
      · obtain ⟨x, hx⟩ : ∃ x, l[k]? = some x := ⟨_, List.getElem?_eq_getElem (by have := hlen.out; omega)⟩
        have HS1 := Lib.hid (rows_move HL.out hbel)
        obtain ⟨b, o, rfl, hSb, hbs, HC⟩ := HS1.out.at (by decide) (by omega)
        obtain ⟨v, hv1, ⟨A9, n9, c9, rfl, harr⟩, hv2⟩ := HC k x hx
        have hc0 := hv2 0 _ rfl
        simp only [Nat.mul_one, Nat.add_zero] at hc0
        have hx9 := Lib.hid harr.len
        have hx9c := harr.cap
        have hx9m := harr.capMax
        clear hv1 hv2 HC
        have HX := Lib.hid hx; clear hx
        by_cases h20 : 20 < n9
        · go_wp2_with fail
          go_ret
          exact ⟨rfl, hbel⟩
        · obtain ⟨rt, hrt⟩ : ∃ r, texts x = r := ⟨_, rfl⟩
          have HRT := Lib.hid hrt; clear hrt
          go_wp2_with fail
          refine (texts_any harr rt HRT.out).mono ?_
          rintro e w2 ⟨A3, m3, c3, rfl, ho3, hb3⟩
          have hbel2 : Below w.heap.size w w2 := Below.trans hbel (hb3.mono hsz)
          have hown2 := hown.after hb3
          have hsz2 := hbel2.size
          have hd0 := kcell hb3 hc0
          clear hc0
          cases rt with
          | error e2 =>
            have hne : e2 ≠ 0 := texts_ne HRT.out
            go_wp2_with fail
            go_ret
            exact ⟨rfl, hbel2⟩
          | ok y =>
            have HK2 := putsM_take HK HX.out HRT.out
            have H20' : Hid (∀ x ∈ l.take (k + 1), x.length ≤ 20) := by
              intro z hz
              rw [List.take_add_one, HX.out] at hz
              simp only [List.mem_append, Option.toList_some, List.mem_singleton] at hz
              rcases hz with hz | rfl
              · exact H20.out z hz
              · have := hx9.out; omega
            have hpl := rows_len H20.out HK.out
            have hpl2 := (texts_len HRT.out).1
            rw [List.length_take] at hpl
            have hxl : x.length ≤ 20 := by have := hx9.out; omega
            have hbound : pre.length + y.length ≤ 140737488355328 := by
              have : min k l.length * 1310742 ≤ 20 * 1310742 := Nat.mul_le_mul_right _ (by omega)
              omega
            clear hpl hpl2
            have HY : Hid (y = enc 2 x.length ++ y.drop 2) := by
              obtain ⟨_, z, _, e⟩ := putL_parts HRT.out
              have : y.drop 2 = z := by rw [e, List.drop_append_of_le_length (by rw [enc_length]; omega), List.drop_eq_nil_of_le (by rw [enc_length]; omega), List.nil_append]
              rw [this]; exact e
            have hy2 : 2 ≤ m3 := by
              have h1 := ho3.len
              have h2 := congrArg List.length HY.out
              rw [List.length_append, enc_length] at h2
              simp only [wval_ok] at h1
              omega
            have hm3c := ho3.sl.cap
            have hm3m := ho3.sl.capMax
            obtain ⟨b3, o3, rfl, hS3, hbs3, HC3⟩ := ho3.sl.addr (by omega)
            have hy0 : w2.cell? ⟨b3, o3, none⟩ = some (.int .u8 0) := by
              have h1 := HC3.out 0 (by have := ho3.len; simp only [wval_ok] at this ⊢; omega)
              rw [Nat.add_zero] at h1
              rw [h1]
              have h2 := HY.out
              rw [enc2_small hxl] at h2
              have h3 : (wval (.ok y))[0]? = some 0 := by rw [wval_ok, h2]; rfl
              rw [List.getElem?_eq_getElem (by have := ho3.len; simp only [wval_ok] at this ⊢; omega)] at h3
              injection h3 with h3
              rw [h3]
              rfl
            have hy1 : w2.cell? ⟨b3, o3 + 1, none⟩ = some (.int .u8 (n9 : Int)) := by
              have h1 := HC3.out 1 (by have := ho3.len; simp only [wval_ok] at this ⊢; omega)
              rw [h1]
              have h2 := HY.out
              rw [enc2_small hxl] at h2
              have h3 : (wval (.ok y))[1]? = some (UInt8.ofNat x.length) := by rw [wval_ok, h2]; rfl
              rw [List.getElem?_eq_getElem (by have := ho3.len; simp only [wval_ok] at this ⊢; omega)] at h3
              injection h3 with h3
              rw [h3, UInt8.toNat_ofNat', Nat.mod_eq_of_lt (by omega), ← hx9.out]
            clear HC3
            have hcv := fun q => conv_sl (ho3.sl.after (below_self_drewN _ w2 q))
            by_cases h0 : n9 = 0
            · subst h0
              have hy00 : y = [0, 0] := by
                have : x = [] := List.eq_nil_of_length_eq_zero hx9.out.symm
                have h1 := HRT.out
                rw [this] at h1
                injection h1 with h1
                exact h1.symm
              subst hy00
              go_wp2_with fail
              go_quiet (fail)
              go_wp2_with (first | (at_builtin; refine wpList_app rfl _ _ rfl w.heap.size _ _ _ pre rfl (hown2.after (by repeat (first | exact Below.refl _ _ | assumption | refine Below.drew ?_ | refine below_drewN ?_ _ | refine Below.alloc ?_ (by simp) _ | refine Below.setCell ?_ (by simp) _))) _ _ _ _ [0, 0] rfl (ho3.sl.after (by repeat (first | exact Below.refl _ _ | assumption | refine Below.drew ?_ | refine below_drewN ?_ _ | refine Below.alloc ?_ (by simp) _ | refine Below.setCell ?_ (by simp) _))) hbound (by simp; omega) ?_; intro A4 m4 c4 w3 hown3 hg3))
              go_roundw
              case rel => exact ⟨k + 1, _, _, _, _, by omega, by go_num, rfl, H20', HK2, hown3, Below.grown (by repeat (first | exact Below.refl _ _ | assumption | refine Below.drew ?_ | refine below_drewN ?_ _ | refine Below.alloc ?_ (by first | (simp; done) | omega | (simp; omega)) _ | refine Below.setCell ?_ (by first | (simp; done) | omega | (simp; omega)) _)) hg3 (by simp; omega) fun b e => (hown2.block b e).1⟩
              case measure => simp [intOf]; omega
            · have hb0 : ((n9 : Int) == 0) = false := by simpa using h0
              go_wp2_with fail
              go_quiet (fail)
              go_wp2_with (first | (at_builtin; refine wpList_app rfl _ _ rfl w.heap.size _ _ _ pre rfl (hown2.after (by repeat (first | exact Below.refl _ _ | assumption | refine Below.drew ?_ | refine below_drewN ?_ _ | refine Below.alloc ?_ (by simp) _ | refine Below.setCell ?_ (by simp) _))) _ _ _ _ y rfl (ho3.sl.after (by repeat (first | exact Below.refl _ _ | assumption | refine Below.drew ?_ | refine below_drewN ?_ _ | refine Below.alloc ?_ (by simp) _ | refine Below.setCell ?_ (by simp) _))) hbound (by simp; omega) ?_; intro A4 m4 c4 w3 hown3 hg3))
              go_roundw
              case rel => exact ⟨k + 1, _, _, _, _, by omega, by go_num, rfl, H20', HK2, hown3, Below.grown (by repeat (first | exact Below.refl _ _ | assumption | refine Below.drew ?_ | refine below_drewN ?_ _ | refine Below.alloc ?_ (by first | (simp; done) | omega | (simp; omega)) _ | refine Below.setCell ?_ (by first | (simp; done) | omega | (simp; omega)) _)) hg3 (by simp; omega) fun b e => (hown2.block b e).1⟩
              case measure => simp [intOf]; omega
      · obtain rfl : n = k := by omega
        have htk : l.take n = l := List.take_of_length_le (by have := hlen.out; omega)
        rw [htk] at H20 HK
        clear htk
        have hpl := rows_len H20.out HK.out
        have hpl2 : pre.length ≤ 26214840 := by have := hlen.out; omega
        clear hpl
        obtain ⟨wo, hwo⟩ : ∃ wo, wo = wr := ⟨_, rfl⟩
        subst hwo
        go_wp2_with fail
        go_loopw [4, 8, 9, 10, 11, 12] (fun o i _ _ _ _ wr => ∃ k A2 m2 c2 cur, k ≤ n ∧ i = .int .i64 (k : Nat) ∧ o = .slice A2 m2 c2 ∧ Hid (putsM texts (l.drop k) = .ok cur) ∧ m2 ≤ 26214840 ∧ Sl (fun b => True) wr A2 m2 c2 cur ∧ Below w.heap.size w wr) (fun _ i _ _ _ _ _ => n - (intOf i).toNat)
        case atStart => exact ⟨0, A2, m2, c2, pre, by omega, rfl, rfl, HK, by have := hown.len; omega, hown.sl.mono (fun _ _ _ => trivial), hbel⟩
        case round =>
          obtain ⟨k, A5, m5, c5, cur, hk, rfl, rfl, HC, hm5, hs5, hbel5⟩ := hrel
          have hsz5 := hbel5.size
          by_cases hlt : k < n
          · obtain ⟨x, hx⟩ : ∃ x, l[k]? = some x := ⟨_, List.getElem?_eq_getElem (by have := hlen.out; omega)⟩
            have hdr : l.drop k = x :: l.drop (k + 1) := by
              obtain ⟨h1, rfl⟩ := List.getElem?_eq_some_iff.1 hx
              exact List.drop_eq_getElem_cons h1
            rw [hdr] at HC
            clear hdr
            obtain ⟨y, z, hy, hz, hyz⟩ := putsM_uncons HC.out
            have hgt : getTexts cur = .ok (x, z) := by rw [hyz]; exact texts_back' hy
            have HGT := Lib.hid hgt
            have HZ := Lib.hid hz
            have hzl : z.length ≤ 26214840 := by
              have := congrArg List.length hyz
              rw [List.length_append] at this
              have := hs5.len
              omega
            clear hgt hz hy hyz HC
            have HS1 := Lib.hid (rows_move HL.out hbel5)
            obtain ⟨b, o, rfl, hSb, hbs, HC⟩ := HS1.out.at (by decide) (by omega)
            obtain ⟨v, hv1, ⟨A9, n9, c9, rfl, harr⟩, hv2⟩ := HC k x hx
            have hc0 := hv2 0 _ rfl
            simp only [Nat.mul_one, Nat.add_zero] at hc0
            have hx9 := Lib.hid harr.len
            have hx9c := harr.cap
            have hx9m := harr.capMax
            clear hv1 hv2 HC
            have HX := Lib.hid hx; clear hx
            go_wp2_with fail
            refine (getTexts_any hs5 (by omega) _ HGT.out).mono ?_
            rintro e w2 ⟨A6, m6, c6, A7, m7, c7, rfl, ho6, hs7, hb2⟩
            have hd0 := kcell hb2 hc0
            have hbel6 : Below w.heap.size w w2 := Below.trans hbel5 (hb2.mono hsz5)
            obtain rfl : n9 = m6 := by
              have h1 := ho6.len (by decide)
              have := hx9.out
              simp only [rval_ok] at h1
              omega
            have harr2 := Lib.hid (harr.after hb2); clear harr
            have HO6 := Lib.hid (ho6.arr (by decide)); clear ho6
            have hm6c := HO6.out.cap
            have hm6m := HO6.out.capMax
            simp only [rerr_ok, rval_ok, rrest_ok] at HO6 hs7 ⊢
            clear hc0
            go_wp2_with fail
            go_loopw [12] (fun i wi => ∃ j : Nat, j ≤ n9 ∧ i = .int .i64 (j : Nat) ∧ Below w2.heap.size w2 wi) (fun i _ => n9 - (intOf i).toNat)
            case atStart => exact ⟨0, by omega, rfl, Below.refl _ _⟩
            case round =>
              obtain ⟨j, hj, rfl, hb9⟩ := hrel
              have he0 := kcell hb9 hd0
              by_cases hlj : j < n9
              · obtain ⟨y, hy⟩ : ∃ y, x[j]? = some y := ⟨_, List.getElem?_eq_getElem (by have := hx9.out; omega)⟩
                have HX5 := Lib.hid (harr2.out.after hb9)
                have HY5 := Lib.hid (HO6.out.after hb9)
                obtain ⟨b5, o5, rfl, _, _, HC5⟩ := HX5.out.at (by decide) (by omega)
                obtain ⟨v5, hv5, ⟨rfl, _⟩, hv6⟩ := HC5 j y hy
                have hcy := hv6 0 _ rfl
                obtain ⟨b6, o6, rfl, _, _, HC6⟩ := HY5.out.at (by decide) (by omega)
                obtain ⟨v6, hv7, ⟨rfl, _⟩, hv8⟩ := HC6 j y hy
                have hdy := hv8 0 _ rfl
                simp only [Nat.mul_one, Nat.add_zero] at hcy hdy
                clear hv5 hv6 HC5 hv7 hv8 HC6
                have HYY := Lib.hid hy; clear hy
                go_wp2_with fail
                go_quiet (fail)
                go_wp2_with fail
                refine ⟨⟨j + 1, by omega, by go_num, (by repeat (first | exact Below.refl _ _ | assumption | refine Below.drew ?_ | refine below_drewN ?_ _ | refine Below.alloc ?_ (by simp) _ | refine Below.setCell ?_ (by simp) _))⟩, by simp [intOf]; omega⟩
              · go_wp2_with fail
                refine ⟨⟨k + 1, A7, m7, c7, z, by omega, by go_num, rfl, HZ, by have := hs7.len; omega, (hs7.after hb9).mono fun _ _ _ => trivial, hbel6.trans (hb9.mono hbel6.size)⟩, by simp [intOf]; omega⟩
          · obtain rfl : n = k := by omega
            have hnil : cur = [] := by
              have h1 := HC.out
              rw [List.drop_eq_nil_of_le (by have := hlen.out; omega)] at h1
              injection h1 with h1
              exact h1.symm
            subst hnil
            obtain rfl : m5 = 0 := hs5.len
            go_wp2_with fail
            go_ret
            exact ⟨rfl, hbel5⟩
end Go.Proofs.Sb
