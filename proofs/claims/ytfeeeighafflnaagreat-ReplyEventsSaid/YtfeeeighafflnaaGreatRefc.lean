/- Walks over signalboxref03.Put, kind by kind. Conditions: the sum of the parts up to 2^47. (written by gen_refput.py) -/
import Derived.Test.YtfeeeighafflnaaGreatPlaind
import Derived.Test.YtfeeeighafflnaaGreatRefb
set_option linter.unusedVariables false
set_option linter.unusedSimpArgs false
namespace Go.Proofs.Sb
open Go.RowKit _root_.Sb

theorem take_map_succ {l : List B} {j : Nat} {y : B} (h : l[j]? = some y) : (l.take (j + 1)).map Thing.ofText = (l.take j).map Thing.ofText ++ [Thing.ofText y] := by
  obtain ⟨hj, rfl⟩ := List.getElem?_eq_some_iff.1 h
  rw [List.take_succ_eq_append_getElem hj, List.map_append]
  rfl
theorem gcell {w w' : World} {row : Option Nat} (hg : w.grownBy w' row) {b o : Nat} {v : Value} (hr : some b ≠ row) (h : w.cell? ⟨b, o, none⟩ = some v) : w'.cell? ⟨b, o, none⟩ = some v :=
  (World.cell?_of_block (hg.block b (World.block_lt_of_cell? w ⟨b, o, none⟩ h) hr)).trans h

set_option maxHeartbeats 2000000 in
set_option maxRecDepth 100000 in
theorem rput0_any {S S2 : Nat → Prop} {A : Option Addr} {n c M : Nat} {l : List Thing} {w : World} (hs : Arr 5 (itemP S2 w) S w A n c l) (hM : ∀ x ∈ l, ∀ b, itemW 0 x = .ok b → b.length ≤ M) (hM0 : 65537 ≤ M) (hsum : l.length ≤ 65535 → 2 + l.length * M ≤ 140737488355328) (r : Wr) (hr : putL (itemW 0) l = r) :
    Calls Tryz.prog 32 #[.int .i64 0, .slice A n c] w fun e w' => ∃ A1 n1 c1, e = .returned (.tuple #[.slice A1 n1 c1, .int .i64 (werr r)]) ∧ Own w.heap.size w' A1 n1 c1 (wval r) ∧ Below w.heap.size w w' := by
  have hlen := Lib.hid hs.len
  have hcap := hs.cap
  have hcm := hs.capMax
  unfold putL at hr
  by_cases hbig : 65535 < l.length
  · rw [if_pos hbig] at hr
    subst hr
    have hn : 65535 < n := by have := hlen.out; omega
    go_enter Tryz.func32, Tryz.ntmps32
    go_wp2_with fail
    go_ret2
    exact ⟨_, _, _, rfl, Own.nil, Below.refl _ _⟩
  · rw [if_neg hbig] at hr
    have hn : n ≤ 65535 := by have := hlen.out; omega
    have HSUM := Lib.hid (hsum (by omega)); clear hsum
    have HM := Lib.hid hM; clear hM
    have HR := Lib.hid hr; clear hr
    have HS := Lib.hid hs.lt; clear hs
    go_enter Tryz.func32, Tryz.ntmps32
    go_wp2_with fail
    refine (rput_any _ 2 _ (by omega) (by omega) (by omega) (by omega)).mono ?_
    rintro e w1 ⟨A1, m1, c1, rfl, ho1, hb1⟩
    go_wp2_with fail
    go_loopw [6, 7, 8, 9, 10, 11, 12] (fun o i _ _ _ _ _ wr => ∃ k A2 m2 c2 pre, k ≤ n ∧ i = .int .i64 (k : Nat) ∧ o = .slice A2 m2 c2 ∧ Hid (putsM (itemW 0) (l.take k) = .ok pre) ∧ Own w.heap.size wr A2 m2 c2 (enc 2 l.length ++ pre) ∧ Below w.heap.size w wr) (fun _ i _ _ _ _ _ _ => n - (intOf i).toNat)
    case atStart => exact ⟨0, A1, m1, c1, [], by omega, rfl, rfl, rfl, by rw [List.append_nil, ← hlen.out]; exact ho1, hb1⟩
    case round =>
      obtain ⟨k, A2, m2, c2, pre, hk, rfl, rfl, HK, hown, hbel⟩ := hrel
      have hsz := hbel.size
      by_cases hlt : k < n
      · obtain ⟨x, hx⟩ : ∃ x, l[k]? = some x := ⟨_, List.getElem?_eq_getElem (by have := hlen.out; omega)⟩
        have HS1 := Lib.hid (HS.out.after hbel)
        obtain ⟨b, o, rfl, hSb, hbs, HC⟩ := HS1.out.at (by decide) (by omega)
        obtain ⟨v, hv1, ⟨A9, n9, c9, rfl, hx1, hx2, hx3, hx4⟩, hv2⟩ := HC k x hx
        have hc0 := hv2 0 _ rfl
        simp only [Nat.add_zero] at hc0
        have hc1 := hv2 1 _ rfl
        have hc2 := hv2 2 _ rfl
        have hc3 := hv2 3 _ rfl
        have hc4 : wr.cell? ⟨b, o + k * 5 + 3 + 1, none⟩ = some (.string (str x.value.bytes)) := hv2 4 _ rfl
        have HMX := Lib.hid (HM.out x (List.mem_of_getElem? hx))
        clear hv1 hv2 HC
        obtain ⟨qk, hqk⟩ : ∃ q, text x.key = q := ⟨_, rfl⟩
        have HQK := Lib.hid hqk; clear hqk
        have HX := Lib.hid hx; clear hx
        have hpl := Lib.hid (putsM_len (M := M) (fun x hx b hb => HM.out x (List.mem_of_mem_take hx) b hb) HK)
        have hmul : (l.take k).length * M + M ≤ l.length * M := by
          have h1 : ((l.take k).length + 1) * M ≤ l.length * M := Nat.mul_le_mul_right _ (by rw [List.length_take]; have := hlen.out; omega)
          rwa [Nat.add_mul, Nat.one_mul] at h1
        go_wp2_with fail
        refine (rtext_any x.key _ hx1 qk HQK.out).mono ?_
        rintro e w2 ⟨A3, m3, c3, rfl, ho3, hb3⟩
        have hbel2 : Below w.heap.size w w2 := Below.trans hbel (hb3.mono hsz)
        have hown2 := hown.after hb3
        have hsz2 := hbel2.size
        cases qk with
        | error e2 =>
          have hne := text_ne HQK.out
          have h0 := putsM_stop HK HX.out (show itemW 0 x = .error e2 by unfold itemW; rw [HQK.out]; rfl)
          rw [h0] at HR
          obtain rfl := HR.out
          go_wp2_with fail
          go_ret2
          exact ⟨_, _, _, rfl, Own.nil, hbel2⟩
        | ok yk =>
          have hykl := (text_len HQK.out).1
          have hq0 := hb3.cell (p := ⟨b, o + k * 5, none⟩) hbs
          have hd1 := kcell hb3 hc1
          have hd2 := kcell hb3 hc2
          have hd3 := kcell hb3 hc3
          have hd4 := kcell hb3 hc4
          clear hq0 hc0 hc1 hc2 hc3 hc4
          go_wp2_with (first | (at_builtin; refine wpList_app rfl _ _ rfl w.heap.size _ _ _ _ rfl hown3 (fun _ => True) _ _ _ [] rfl Sl.nil (by have h1 := hpl.out; have h2 := HSUM.out; rw [List.length_append, List.length_append, enc_length]; simp; omega) (Nat.le_trans hsz2 hg3.size) ?_; intro A5 m5 c5 w4 hown4 hg4) | (at_builtin; refine wpList_app rfl _ _ rfl w.heap.size _ _ _ _ rfl hown2 _ _ _ _ yk rfl ho3.sl (by have h1 := hpl.out; have h2 := HSUM.out; rw [List.length_append, enc_length]; omega) hsz2 ?_; intro A4 m4 c4 w3 hown3 hg3; have hrow : some b ≠ A2.map (·.block) := (fun e => by have := (hown2.block b e.symm).1; omega); have hf1 := gcell hg3 hrow hd1; have hf2 := gcell hg3 hrow hd2; have hf3 := gcell hg3 hrow hd3; have hf4 := gcell hg3 hrow hd4; clear hd1 hd2 hd3 hd4 hrow))
          have hbel3 : Below w.heap.size w w3 := Below.grown hbel2 hg3 hsz2 fun b e => (hown2.block b e).1
          have HK2 := putsM_take HK HX.out (show itemW 0 x = .ok (yk ++ []) by unfold itemW; rw [HQK.out]; rfl)
          go_roundw
          case rel =>
            refine ⟨k + 1, _, _, _, _, by omega, by go_num, rfl, HK2, ?_, ?_⟩
            · simp only [List.append_assoc] at hown4 ⊢
              exact hown4
            · exact Below.grown hbel3 hg4 hbel3.size fun b e => (hown3.block b e).1
          case measure => simp [intOf]; omega
      · obtain rfl : k = n := by omega
        have h0 : putsM (itemW 0) l = .ok pre := by have := HK; rwa [List.take_of_length_le (by have := hlen.out; omega)] at this
        rw [h0] at HR
        obtain rfl := HR.out
        go_wp2_with fail
        go_ret2
        exact ⟨_, _, _, rfl, hown, hbel⟩

set_option maxHeartbeats 2000000 in
set_option maxRecDepth 100000 in
theorem rput1_any {S S2 : Nat → Prop} {A : Option Addr} {n c M : Nat} {l : List Thing} {w : World} (hs : Arr 5 (itemP S2 w) S w A n c l) (hM : ∀ x ∈ l, ∀ b, itemW 1 x = .ok b → b.length ≤ M) (hM0 : 65537 ≤ M) (hsum : l.length ≤ 65535 → 2 + l.length * M ≤ 140737488355328) (r : Wr) (hr : putL (itemW 1) l = r) :
    Calls Tryz.prog 32 #[.int .i64 1, .slice A n c] w fun e w' => ∃ A1 n1 c1, e = .returned (.tuple #[.slice A1 n1 c1, .int .i64 (werr r)]) ∧ Own w.heap.size w' A1 n1 c1 (wval r) ∧ Below w.heap.size w w' := by
  have hlen := Lib.hid hs.len
  have hcap := hs.cap
  have hcm := hs.capMax
  unfold putL at hr
  by_cases hbig : 65535 < l.length
  · rw [if_pos hbig] at hr
    subst hr
    have hn : 65535 < n := by have := hlen.out; omega
    go_enter Tryz.func32, Tryz.ntmps32
    go_wp2_with fail
    go_ret2
    exact ⟨_, _, _, rfl, Own.nil, Below.refl _ _⟩
  · rw [if_neg hbig] at hr
    have hn : n ≤ 65535 := by have := hlen.out; omega
    have HSUM := Lib.hid (hsum (by omega)); clear hsum
    have HM := Lib.hid hM; clear hM
    have HR := Lib.hid hr; clear hr
    have HS := Lib.hid hs.lt; clear hs
    go_enter Tryz.func32, Tryz.ntmps32
    go_wp2_with fail
    refine (rput_any _ 2 _ (by omega) (by omega) (by omega) (by omega)).mono ?_
    rintro e w1 ⟨A1, m1, c1, rfl, ho1, hb1⟩
    go_wp2_with fail
    go_loopw [6, 7, 8, 9, 10, 11, 12] (fun o i _ _ _ _ _ wr => ∃ k A2 m2 c2 pre, k ≤ n ∧ i = .int .i64 (k : Nat) ∧ o = .slice A2 m2 c2 ∧ Hid (putsM (itemW 1) (l.take k) = .ok pre) ∧ Own w.heap.size wr A2 m2 c2 (enc 2 l.length ++ pre) ∧ Below w.heap.size w wr) (fun _ i _ _ _ _ _ _ => n - (intOf i).toNat)
    case atStart => exact ⟨0, A1, m1, c1, [], by omega, rfl, rfl, rfl, by rw [List.append_nil, ← hlen.out]; exact ho1, hb1⟩
    case round =>
      obtain ⟨k, A2, m2, c2, pre, hk, rfl, rfl, HK, hown, hbel⟩ := hrel
      have hsz := hbel.size
      by_cases hlt : k < n
      · obtain ⟨x, hx⟩ : ∃ x, l[k]? = some x := ⟨_, List.getElem?_eq_getElem (by have := hlen.out; omega)⟩
        have HS1 := Lib.hid (HS.out.after hbel)
        obtain ⟨b, o, rfl, hSb, hbs, HC⟩ := HS1.out.at (by decide) (by omega)
        obtain ⟨v, hv1, ⟨A9, n9, c9, rfl, hx1, hx2, hx3, hx4⟩, hv2⟩ := HC k x hx
        have hc0 := hv2 0 _ rfl
        simp only [Nat.add_zero] at hc0
        have hc1 := hv2 1 _ rfl
        have hc2 := hv2 2 _ rfl
        have hc3 := hv2 3 _ rfl
        have hc4 : wr.cell? ⟨b, o + k * 5 + 3 + 1, none⟩ = some (.string (str x.value.bytes)) := hv2 4 _ rfl
        have HMX := Lib.hid (HM.out x (List.mem_of_getElem? hx))
        clear hv1 hv2 HC
        obtain ⟨qk, hqk⟩ : ∃ q, text x.key = q := ⟨_, rfl⟩
        have HQK := Lib.hid hqk; clear hqk
        have HX := Lib.hid hx; clear hx
        have hpl := Lib.hid (putsM_len (M := M) (fun x hx b hb => HM.out x (List.mem_of_mem_take hx) b hb) HK)
        have hmul : (l.take k).length * M + M ≤ l.length * M := by
          have h1 : ((l.take k).length + 1) * M ≤ l.length * M := Nat.mul_le_mul_right _ (by rw [List.length_take]; have := hlen.out; omega)
          rwa [Nat.add_mul, Nat.one_mul] at h1
        go_wp2_with fail
        refine (rtext_any x.key _ hx1 qk HQK.out).mono ?_
        rintro e w2 ⟨A3, m3, c3, rfl, ho3, hb3⟩
        have hbel2 : Below w.heap.size w w2 := Below.trans hbel (hb3.mono hsz)
        have hown2 := hown.after hb3
        have hsz2 := hbel2.size
        cases qk with
        | error e2 =>
          have hne := text_ne HQK.out
          have h0 := putsM_stop HK HX.out (show itemW 1 x = .error e2 by unfold itemW; rw [HQK.out]; rfl)
          rw [h0] at HR
          obtain rfl := HR.out
          go_wp2_with fail
          go_ret2
          exact ⟨_, _, _, rfl, Own.nil, hbel2⟩
        | ok yk =>
          have hykl := (text_len HQK.out).1
          have hq0 := hb3.cell (p := ⟨b, o + k * 5, none⟩) hbs
          have hd1 := kcell hb3 hc1
          have hd2 := kcell hb3 hc2
          have hd3 := kcell hb3 hc3
          have hd4 := kcell hb3 hc4
          clear hq0 hc0 hc1 hc2 hc3 hc4
          go_wp2_with (first | (at_builtin; refine wpList_app rfl _ _ rfl w.heap.size _ _ _ _ rfl hown2 _ _ _ _ yk rfl ho3.sl (by have h1 := hpl.out; have h2 := HSUM.out; rw [List.length_append, enc_length]; omega) hsz2 ?_; intro A4 m4 c4 w3 hown3 hg3; have hrow : some b ≠ A2.map (·.block) := (fun e => by have := (hown2.block b e.symm).1; omega); have hf1 := gcell hg3 hrow hd1; have hf2 := gcell hg3 hrow hd2; have hf3 := gcell hg3 hrow hd3; have hf4 := gcell hg3 hrow hd4; clear hd1 hd2 hd3 hd4 hrow))
          have hbel3 : Below w.heap.size w w3 := Below.grown hbel2 hg3 hsz2 fun b e => (hown2.block b e).1
          obtain ⟨qv, hqv⟩ : ∃ q, text x.text = q := ⟨_, rfl⟩
          have HQV := Lib.hid hqv; clear hqv
          have hiv : itemV 1 x = qv := HQV.out
          refine (rtext_any x.text _ hx2 qv HQV.out).mono ?_
          rintro e w4 ⟨A6, m6, c6, rfl, ho5, hb5⟩
          have hbel5 : Below w.heap.size w w4 := Below.trans hbel3 (hb5.mono hbel3.size)
          have hown5 := hown3.after hb5
          cases qv with
          | error e2 =>
            have hne := text_ne HQV.out
            have h0 := putsM_stop HK HX.out (show itemW 1 x = .error e2 by unfold itemW; rw [HQK.out, hiv]; rfl)
            rw [h0] at HR
            obtain rfl := HR.out
            go_wp2_with fail
            go_ret2
            exact ⟨_, _, _, rfl, Own.nil, hbel5⟩
          | ok yv =>
            have hit : itemW 1 x = .ok (yk ++ yv) := by unfold itemW; rw [HQK.out, hiv]; rfl
            have HK2 := putsM_take HK HX.out hit
            clear hiv
            go_wp2_with (first | (at_builtin; refine wpList_app rfl _ _ rfl w.heap.size _ _ _ _ rfl hown5 _ _ _ _ yv rfl ho5.sl (by have h1 := hpl.out; have h2 := HSUM.out; have h3 := HMX.out _ hit; rw [List.length_append] at h3; rw [List.length_append, List.length_append, enc_length]; omega) hbel5.size ?_; intro A5 m5 c5 w4 hown4 hg4))
            go_roundw
            case rel =>
              refine ⟨k + 1, _, _, _, _, by omega, by go_num, rfl, HK2, ?_, ?_⟩
              · simp only [List.append_assoc] at hown4 ⊢
                exact hown4
              · exact Below.grown hbel5 hg4 hbel5.size fun b e => (hown5.block b e).1
            case measure => simp [intOf]; omega
      · obtain rfl : k = n := by omega
        have h0 : putsM (itemW 1) l = .ok pre := by have := HK; rwa [List.take_of_length_le (by have := hlen.out; omega)] at this
        rw [h0] at HR
        obtain rfl := HR.out
        go_wp2_with fail
        go_ret2
        exact ⟨_, _, _, rfl, hown, hbel⟩

set_option maxHeartbeats 2000000 in
set_option maxRecDepth 100000 in
theorem rput2_any {S S2 : Nat → Prop} {A : Option Addr} {n c M : Nat} {l : List Thing} {w : World} (hs : Arr 5 (itemP S2 w) S w A n c l) (hb0 : ∀ x ∈ l, x.texts.length ≤ 1000000) (hM : ∀ x ∈ l, ∀ b, itemW 2 x = .ok b → b.length ≤ M) (hM0 : 65537 ≤ M) (hsum : l.length ≤ 65535 → 2 + l.length * M ≤ 140737488355328) (r : Wr) (hr : putL (itemW 2) l = r) :
    Calls Tryz.prog 32 #[.int .i64 2, .slice A n c] w fun e w' => ∃ A1 n1 c1, e = .returned (.tuple #[.slice A1 n1 c1, .int .i64 (werr r)]) ∧ Own w.heap.size w' A1 n1 c1 (wval r) ∧ Below w.heap.size w w' := by
  have hlen := Lib.hid hs.len
  have hcap := hs.cap
  have hcm := hs.capMax
  unfold putL at hr
  by_cases hbig : 65535 < l.length
  · rw [if_pos hbig] at hr
    subst hr
    have hn : 65535 < n := by have := hlen.out; omega
    go_enter Tryz.func32, Tryz.ntmps32
    go_wp2_with fail
    go_ret2
    exact ⟨_, _, _, rfl, Own.nil, Below.refl _ _⟩
  · rw [if_neg hbig] at hr
    have hn : n ≤ 65535 := by have := hlen.out; omega
    have HSUM := Lib.hid (hsum (by omega)); clear hsum
    have HM := Lib.hid hM; clear hM
    have HR := Lib.hid hr; clear hr
    have HS := Lib.hid hs.lt; clear hs
    go_enter Tryz.func32, Tryz.ntmps32
    go_wp2_with fail
    refine (rput_any _ 2 _ (by omega) (by omega) (by omega) (by omega)).mono ?_
    rintro e w1 ⟨A1, m1, c1, rfl, ho1, hb1⟩
    go_wp2_with fail
    go_loopw [6, 7, 8, 9, 10, 11, 12] (fun o i _ _ _ _ _ wr => ∃ k A2 m2 c2 pre, k ≤ n ∧ i = .int .i64 (k : Nat) ∧ o = .slice A2 m2 c2 ∧ Hid (putsM (itemW 2) (l.take k) = .ok pre) ∧ Own w.heap.size wr A2 m2 c2 (enc 2 l.length ++ pre) ∧ Below w.heap.size w wr) (fun _ i _ _ _ _ _ _ => n - (intOf i).toNat)
    case atStart => exact ⟨0, A1, m1, c1, [], by omega, rfl, rfl, rfl, by rw [List.append_nil, ← hlen.out]; exact ho1, hb1⟩
    case round =>
      obtain ⟨k, A2, m2, c2, pre, hk, rfl, rfl, HK, hown, hbel⟩ := hrel
      have hsz := hbel.size
      by_cases hlt : k < n
      · obtain ⟨x, hx⟩ : ∃ x, l[k]? = some x := ⟨_, List.getElem?_eq_getElem (by have := hlen.out; omega)⟩
        have HS1 := Lib.hid (HS.out.after hbel)
        obtain ⟨b, o, rfl, hSb, hbs, HC⟩ := HS1.out.at (by decide) (by omega)
        obtain ⟨v, hv1, ⟨A9, n9, c9, rfl, hx1, hx2, hx3, hx4⟩, hv2⟩ := HC k x hx
        have hc0 := hv2 0 _ rfl
        simp only [Nat.add_zero] at hc0
        have hc1 := hv2 1 _ rfl
        have hc2 := hv2 2 _ rfl
        have hc3 := hv2 3 _ rfl
        have hc4 : wr.cell? ⟨b, o + k * 5 + 3 + 1, none⟩ = some (.string (str x.value.bytes)) := hv2 4 _ rfl
        have HMX := Lib.hid (HM.out x (List.mem_of_getElem? hx))
        clear hv1 hv2 HC
        obtain ⟨qk, hqk⟩ : ∃ q, text x.key = q := ⟨_, rfl⟩
        have HQK := Lib.hid hqk; clear hqk
        have HX := Lib.hid hx; clear hx
        have hpl := Lib.hid (putsM_len (M := M) (fun x hx b hb => HM.out x (List.mem_of_mem_take hx) b hb) HK)
        have hmul : (l.take k).length * M + M ≤ l.length * M := by
          have h1 : ((l.take k).length + 1) * M ≤ l.length * M := Nat.mul_le_mul_right _ (by rw [List.length_take]; have := hlen.out; omega)
          rwa [Nat.add_mul, Nat.one_mul] at h1
        go_wp2_with fail
        refine (rtext_any x.key _ hx1 qk HQK.out).mono ?_
        rintro e w2 ⟨A3, m3, c3, rfl, ho3, hb3⟩
        have hbel2 : Below w.heap.size w w2 := Below.trans hbel (hb3.mono hsz)
        have hown2 := hown.after hb3
        have hsz2 := hbel2.size
        cases qk with
        | error e2 =>
          have hne := text_ne HQK.out
          have h0 := putsM_stop HK HX.out (show itemW 2 x = .error e2 by unfold itemW; rw [HQK.out]; rfl)
          rw [h0] at HR
          obtain rfl := HR.out
          go_wp2_with fail
          go_ret2
          exact ⟨_, _, _, rfl, Own.nil, hbel2⟩
        | ok yk =>
          have hykl := (text_len HQK.out).1
          have hq0 := hb3.cell (p := ⟨b, o + k * 5, none⟩) hbs
          have hd1 := kcell hb3 hc1
          have hd2 := kcell hb3 hc2
          have hd3 := kcell hb3 hc3
          have hd4 := kcell hb3 hc4
          clear hq0 hc0 hc1 hc2 hc3 hc4
          go_wp2_with (first | (at_builtin; refine wpList_app rfl _ _ rfl w.heap.size _ _ _ _ rfl hown2 _ _ _ _ yk rfl ho3.sl (by have h1 := hpl.out; have h2 := HSUM.out; rw [List.length_append, enc_length]; omega) hsz2 ?_; intro A4 m4 c4 w3 hown3 hg3; have hrow : some b ≠ A2.map (·.block) := (fun e => by have := (hown2.block b e.symm).1; omega); have hf1 := gcell hg3 hrow hd1; have hf2 := gcell hg3 hrow hd2; have hf3 := gcell hg3 hrow hd3; have hf4 := gcell hg3 hrow hd4; clear hd1 hd2 hd3 hd4 hrow))
          have hbel3 : Below w.heap.size w w3 := Below.grown hbel2 hg3 hsz2 fun b e => (hown2.block b e).1
          obtain ⟨qv, hqv⟩ : ∃ q, texts x.texts = q := ⟨_, rfl⟩
          have HQV := Lib.hid hqv; clear hqv
          have hiv : itemV 2 x = qv := HQV.out
          have hx5 := Lib.hid (hx4.after hbel3)
          have hl9 := Lib.hid hx4.len
          have hb9 := Lib.hid (hb0 x (List.mem_of_getElem? HX.out))
          have hcm9 := hx4.capMax
          have hcap9 := hx4.cap
          clear hf1 hf3 hf4
          go_loopw [11, 12] (fun u i wi => ∃ j A7 m7 c7, j ≤ n9 ∧ i = .int .i64 (j : Nat) ∧ u = .slice A7 m7 c7 ∧ OwnA 100 5 (itemP S2 w) w3.heap.size wi A7 m7 c7 ((x.texts.take j).map .ofText) ∧ Below w3.heap.size w3 wi) (fun _ i _ => n9 - (intOf i).toNat)
          case atStart => exact ⟨0, none, 0, 0, by omega, rfl, rfl, OwnA.nil, Below.refl _ _⟩
          case round =>
            obtain ⟨j, A7, m7, c7, hj, rfl, rfl, hown7, hbel7⟩ := hrel
            have hk2 := kcell hbel7 hf2
            by_cases hlj : j < n9
            · obtain ⟨y, hy⟩ : ∃ y, x.texts[j]? = some y := ⟨_, List.getElem?_eq_getElem (by have := hl9.out; omega)⟩
              have HS5 := Lib.hid (hx5.out.after hbel7)
              obtain ⟨b5, o5, rfl, hSb5, hbs5, HC5⟩ := HS5.out.at (by decide) (by omega)
              obtain ⟨v5, hv5, ⟨rfl, hyl⟩, hv6⟩ := HC5 j y hy
              have hcy := hv6 0 _ rfl
              simp only [Nat.mul_one, Nat.add_zero] at hcy
              clear hv5 hv6 HC5
              have HY := Lib.hid hy; clear hy
              have hl7 := Lib.hid (hown7.len (by decide))
              go_wp2_with (first | (at_builtin; refine wpList_appA rfl tyItem _ _ rfl w3.heap.size _ _ _ _ rfl (hown7.after (by repeat (first | exact Below.refl _ _ | assumption | refine Below.drew ?_ | refine below_drewN ?_ _ | refine Below.alloc ?_ (by simp) _ | refine Below.setCell ?_ (by simp) _))) _ _ _ _ [.ofText y] rfl (arr_lit (P := itemP S2 w) _ #[.string (str y), .string (str []), .slice none 0 0, .int .i64 0, .string (str [])] (.ofText y) rfl ⟨_, _, _, rfl, hyl, by simp [Thing.ofText], by simp [Thing.ofText, Val.none], Arr.nil⟩ rfl) itemP_one (fun _ _ _ h => h) (by have h1 := hl7.out; have h2 := hb9.out; have h3 := hl9.out; simp at h1; omega) (by have h1 := hl7.out; have h2 := hb9.out; have h3 := hl9.out; simp at h1; unfold maxLen; omega) (by have := hbel7.size; simp; omega) ?_; intro A8 m8 c8 w8 hown8 hg8 hwh8))
              go_roundw
              case rel =>
                refine ⟨j + 1, _, _, _, by omega, by go_num, rfl, ?_, ?_⟩
                · rw [take_map_succ HY.out]
                  exact hown8
                · exact Below.grown (Below.alloc hbel7 hbel7.size _) hg8 (by have := hbel7.size; simp; omega) fun b e => (hown7.block b e).1
              case measure => simp [intOf]; omega
            · obtain rfl : j = n9 := by omega
              rw [List.take_of_length_le (by have := hl9.out; omega)] at hown7
              have hbelI : Below w.heap.size w wr := Below.trans hbel3 (hbel7.mono hbel3.size)
              have H7 := Lib.hid hown7; clear hown7
              go_wp2_with fail
              refine (rput0_any (S2 := S2) (M := 65537) ((H7.out.arr (by decide)).imp fun x _ v h => h.imp fun A n c l h => h.after hbelI) (fun y hy b hb => by obtain ⟨s, _, rfl⟩ := List.mem_map.1 hy; rw [show itemW 0 (Thing.ofText s) = text s by simp [itemW, itemV, Thing.ofText, bothW_nil]] at hb; exact (text_len hb).1) (by omega) (fun h => by omega) qv ((put_texts x.texts).trans HQV.out)).mono ?_
              rintro e w4 ⟨A6, m6, c6, rfl, ho5, hb5⟩
              have hbel5 : Below w.heap.size w w4 := Below.trans hbelI (hb5.mono hbelI.size)
              have hown5 := (hown3.after hbel7).after hb5
              cases qv with
              | error e2 =>
                have hne := texts_ne HQV.out
                have h0 := putsM_stop HK HX.out (show itemW 2 x = .error e2 by unfold itemW; rw [HQK.out, hiv]; rfl)
                rw [h0] at HR
                obtain rfl := HR.out
                go_wp2_with fail
                go_ret2
                exact ⟨_, _, _, rfl, Own.nil, hbel5⟩
              | ok yv =>
                have hit : itemW 2 x = .ok (yk ++ yv) := by unfold itemW; rw [HQK.out, hiv]; rfl
                have HK2 := putsM_take HK HX.out hit
                clear hiv
                go_wp2_with (first | (at_builtin; refine wpList_app rfl _ _ rfl w.heap.size _ _ _ _ rfl hown5 _ _ _ _ yv rfl ho5.sl (by have h1 := hpl.out; have h2 := HSUM.out; have h3 := HMX.out _ hit; rw [List.length_append] at h3; rw [List.length_append, List.length_append, enc_length]; omega) hbel5.size ?_; intro A5 m5 c5 w4 hown4 hg4))
                go_roundw
                case rel =>
                  refine ⟨k + 1, _, _, _, _, by omega, by go_num, rfl, HK2, ?_, ?_⟩
                  · simp only [List.append_assoc] at hown4 ⊢
                    exact hown4
                  · exact Below.grown hbel5 hg4 hbel5.size fun b e => (hown5.block b e).1
                case measure => simp [intOf]; omega
      · obtain rfl : k = n := by omega
        have h0 : putsM (itemW 2) l = .ok pre := by have := HK; rwa [List.take_of_length_le (by have := hlen.out; omega)] at this
        rw [h0] at HR
        obtain rfl := HR.out
        go_wp2_with fail
        go_ret2
        exact ⟨_, _, _, rfl, hown, hbel⟩

set_option maxHeartbeats 2000000 in
set_option maxRecDepth 100000 in
theorem rput3_any {S S2 : Nat → Prop} {A : Option Addr} {n c M : Nat} {l : List Thing} {w : World} (hs : Arr 5 (itemP S2 w) S w A n c l) (hb0 : ∀ x ∈ l, x.value.bytes.length ≤ 140737488355324) (hM : ∀ x ∈ l, ∀ b, itemW 3 x = .ok b → b.length ≤ M) (hM0 : 65537 ≤ M) (hsum : l.length ≤ 65535 → 2 + l.length * M ≤ 140737488355328) (r : Wr) (hr : putL (itemW 3) l = r) :
    Calls Tryz.prog 32 #[.int .i64 3, .slice A n c] w fun e w' => ∃ A1 n1 c1, e = .returned (.tuple #[.slice A1 n1 c1, .int .i64 (werr r)]) ∧ Own w.heap.size w' A1 n1 c1 (wval r) ∧ Below w.heap.size w w' := by
  have hlen := Lib.hid hs.len
  have hcap := hs.cap
  have hcm := hs.capMax
  unfold putL at hr
  by_cases hbig : 65535 < l.length
  · rw [if_pos hbig] at hr
    subst hr
    have hn : 65535 < n := by have := hlen.out; omega
    go_enter Tryz.func32, Tryz.ntmps32
    go_wp2_with fail
    go_ret2
    exact ⟨_, _, _, rfl, Own.nil, Below.refl _ _⟩
  · rw [if_neg hbig] at hr
    have hn : n ≤ 65535 := by have := hlen.out; omega
    have HSUM := Lib.hid (hsum (by omega)); clear hsum
    have HM := Lib.hid hM; clear hM
    have HR := Lib.hid hr; clear hr
    have HS := Lib.hid hs.lt; clear hs
    go_enter Tryz.func32, Tryz.ntmps32
    go_wp2_with fail
    refine (rput_any _ 2 _ (by omega) (by omega) (by omega) (by omega)).mono ?_
    rintro e w1 ⟨A1, m1, c1, rfl, ho1, hb1⟩
    go_wp2_with fail
    go_loopw [6, 7, 8, 9, 10, 11, 12] (fun o i _ _ _ _ _ wr => ∃ k A2 m2 c2 pre, k ≤ n ∧ i = .int .i64 (k : Nat) ∧ o = .slice A2 m2 c2 ∧ Hid (putsM (itemW 3) (l.take k) = .ok pre) ∧ Own w.heap.size wr A2 m2 c2 (enc 2 l.length ++ pre) ∧ Below w.heap.size w wr) (fun _ i _ _ _ _ _ _ => n - (intOf i).toNat)
    case atStart => exact ⟨0, A1, m1, c1, [], by omega, rfl, rfl, rfl, by rw [List.append_nil, ← hlen.out]; exact ho1, hb1⟩
    case round =>
      obtain ⟨k, A2, m2, c2, pre, hk, rfl, rfl, HK, hown, hbel⟩ := hrel
      have hsz := hbel.size
      by_cases hlt : k < n
      · obtain ⟨x, hx⟩ : ∃ x, l[k]? = some x := ⟨_, List.getElem?_eq_getElem (by have := hlen.out; omega)⟩
        have HS1 := Lib.hid (HS.out.after hbel)
        obtain ⟨b, o, rfl, hSb, hbs, HC⟩ := HS1.out.at (by decide) (by omega)
        obtain ⟨v, hv1, ⟨A9, n9, c9, rfl, hx1, hx2, hx3, hx4⟩, hv2⟩ := HC k x hx
        have hc0 := hv2 0 _ rfl
        simp only [Nat.add_zero] at hc0
        have hc1 := hv2 1 _ rfl
        have hc2 := hv2 2 _ rfl
        have hc3 := hv2 3 _ rfl
        have hc4 : wr.cell? ⟨b, o + k * 5 + 3 + 1, none⟩ = some (.string (str x.value.bytes)) := hv2 4 _ rfl
        have HMX := Lib.hid (HM.out x (List.mem_of_getElem? hx))
        clear hv1 hv2 HC
        obtain ⟨qk, hqk⟩ : ∃ q, text x.key = q := ⟨_, rfl⟩
        have HQK := Lib.hid hqk; clear hqk
        have HX := Lib.hid hx; clear hx
        have hpl := Lib.hid (putsM_len (M := M) (fun x hx b hb => HM.out x (List.mem_of_mem_take hx) b hb) HK)
        have hmul : (l.take k).length * M + M ≤ l.length * M := by
          have h1 : ((l.take k).length + 1) * M ≤ l.length * M := Nat.mul_le_mul_right _ (by rw [List.length_take]; have := hlen.out; omega)
          rwa [Nat.add_mul, Nat.one_mul] at h1
        go_wp2_with fail
        refine (rtext_any x.key _ hx1 qk HQK.out).mono ?_
        rintro e w2 ⟨A3, m3, c3, rfl, ho3, hb3⟩
        have hbel2 : Below w.heap.size w w2 := Below.trans hbel (hb3.mono hsz)
        have hown2 := hown.after hb3
        have hsz2 := hbel2.size
        cases qk with
        | error e2 =>
          have hne := text_ne HQK.out
          have h0 := putsM_stop HK HX.out (show itemW 3 x = .error e2 by unfold itemW; rw [HQK.out]; rfl)
          rw [h0] at HR
          obtain rfl := HR.out
          go_wp2_with fail
          go_ret2
          exact ⟨_, _, _, rfl, Own.nil, hbel2⟩
        | ok yk =>
          have hykl := (text_len HQK.out).1
          have hq0 := hb3.cell (p := ⟨b, o + k * 5, none⟩) hbs
          have hd1 := kcell hb3 hc1
          have hd2 := kcell hb3 hc2
          have hd3 := kcell hb3 hc3
          have hd4 := kcell hb3 hc4
          clear hq0 hc0 hc1 hc2 hc3 hc4
          go_wp2_with (first | (at_builtin; refine wpList_app rfl _ _ rfl w.heap.size _ _ _ _ rfl hown2 _ _ _ _ yk rfl ho3.sl (by have h1 := hpl.out; have h2 := HSUM.out; rw [List.length_append, enc_length]; omega) hsz2 ?_; intro A4 m4 c4 w3 hown3 hg3; have hrow : some b ≠ A2.map (·.block) := (fun e => by have := (hown2.block b e.symm).1; omega); have hf1 := gcell hg3 hrow hd1; have hf2 := gcell hg3 hrow hd2; have hf3 := gcell hg3 hrow hd3; have hf4 := gcell hg3 hrow hd4; clear hd1 hd2 hd3 hd4 hrow))
          have hbel3 : Below w.heap.size w w3 := Below.grown hbel2 hg3 hsz2 fun b e => (hown2.block b e).1
          obtain ⟨qv, hqv⟩ : ∃ q, value x.value = q := ⟨_, rfl⟩
          have HQV := Lib.hid hqv; clear hqv
          have hiv : itemV 3 x = qv := HQV.out
          refine (rvalue_any x.value _ (hb0 x (List.mem_of_getElem? HX.out)) qv HQV.out).mono ?_
          rintro e w4 ⟨A6, m6, c6, rfl, ho5, hb5⟩
          have hbel5 : Below w.heap.size w w4 := Below.trans hbel3 (hb5.mono hbel3.size)
          have hown5 := hown3.after hb5
          cases qv with
          | error e2 =>
            have hne := value_ne HQV.out
            have h0 := putsM_stop HK HX.out (show itemW 3 x = .error e2 by unfold itemW; rw [HQK.out, hiv]; rfl)
            rw [h0] at HR
            obtain rfl := HR.out
            go_wp2_with fail
            go_ret2
            exact ⟨_, _, _, rfl, Own.nil, hbel5⟩
          | ok yv =>
            have hit : itemW 3 x = .ok (yk ++ yv) := by unfold itemW; rw [HQK.out, hiv]; rfl
            have HK2 := putsM_take HK HX.out hit
            clear hiv
            go_wp2_with (first | (at_builtin; refine wpList_app rfl _ _ rfl w.heap.size _ _ _ _ rfl hown5 _ _ _ _ yv rfl ho5.sl (by have h1 := hpl.out; have h2 := HSUM.out; have h3 := HMX.out _ hit; rw [List.length_append] at h3; rw [List.length_append, List.length_append, enc_length]; omega) hbel5.size ?_; intro A5 m5 c5 w4 hown4 hg4))
            go_roundw
            case rel =>
              refine ⟨k + 1, _, _, _, _, by omega, by go_num, rfl, HK2, ?_, ?_⟩
              · simp only [List.append_assoc] at hown4 ⊢
                exact hown4
              · exact Below.grown hbel5 hg4 hbel5.size fun b e => (hown5.block b e).1
            case measure => simp [intOf]; omega
      · obtain rfl : k = n := by omega
        have h0 : putsM (itemW 3) l = .ok pre := by have := HK; rwa [List.take_of_length_le (by have := hlen.out; omega)] at this
        rw [h0] at HR
        obtain rfl := HR.out
        go_wp2_with fail
        go_ret2
        exact ⟨_, _, _, rfl, hown, hbel⟩
end Go.Proofs.Sb
