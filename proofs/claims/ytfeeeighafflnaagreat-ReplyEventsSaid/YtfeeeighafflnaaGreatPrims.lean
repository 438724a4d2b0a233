/- Walks over the package prims. Conditions: lengths up to 2^47. -/
import Derived.Test.YtfeeeighafflnaaGreatOct
set_option linter.unusedVariables false
set_option linter.unusedSimpArgs false
namespace Go.Proofs.Sb
open Go.RowKit _root_.Sb

set_option maxRecDepth 100000 in
theorem text_any (s : B) (w : World) (hs : s.length ≤ 9223372036854775807) (r : Wr) (hr : text s = r) :
    Calls Tryz.prog 51 #[.string (str s)] w fun e w' => ∃ A n c, e = .returned (.tuple #[.slice A n c, .int .i64 (werr r)]) ∧ Own w.heap.size w' A n c (wval r) ∧ Below w.heap.size w w' := by
  subst hr
  unfold text
  by_cases h : s.length > 65535
  · rw [if_pos h]
    go_enter Tryz.func51, Tryz.ntmps51
    go_wp2_with fail
    go_ret2
    exact ⟨_, _, _, rfl, Own.nil, Below.refl _ _⟩
  · rw [if_neg h]
    go_enter Tryz.func51, Tryz.ntmps51
    go_wp2_with (first
      | (go_at_call 70; refine (put_any _ 2 _ (by omega) (by omega) (by omega) (by omega)).mono ?_; rintro e w1 ⟨A, m, c, rfl, ho, hb⟩)
      | (at_builtin; refine wpList_apps rfl _ _ rfl w.heap.size _ _ _ _ rfl ho _ rfl (by rw [enc_length]; omega) (hb.size) ?_; intro A1 n1 c1 w1 hown1 hg1))
    go_ret2
    exact ⟨_, _, _, rfl, hown1, hb.grown hg1 hb.size (fun k hk => (ho.block k hk).1)⟩

set_option maxRecDepth 100000 in
theorem counted_any {S : Nat → Prop} {A : Option Addr} {m c : Nat} {bs : B} {w : World} (hs : Sl S w A m c bs) (hm : m ≤ 140737488355328) (x : Int) (h0 : 0 ≤ x) (r : Res B) (hr : takeN x.toNat bs = r) :
    Calls Tryz.prog 80 #[.int .u64 x, .slice A m c] w fun e w' => ∃ A2 m2 c2, e = .returned (.tuple #[.string (str (rval [] r)), .slice A2 m2 c2, .int .i64 (rerr r)]) ∧ Sl S w' A2 m2 c2 (rrest r) ∧ Below w.heap.size w w' := by
  have HR := Lib.hid hr; clear hr
  go_enter Tryz.func80, Tryz.ntmps80
  go_wp2_with (first
    | (go_at_call 95; refine (take_any hs hm x h0 r HR.out).mono ?_; rintro e w1 ⟨A1, m1, c1, A2, m2, c2, rfl, ho, hsl, hb⟩; have hcv := conv_sl ho.sl))
  go_ret3
  exact ⟨_, _, _, rfl, hsl, hb⟩

set_option maxRecDepth 100000 in
theorem getText_any {S : Nat → Prop} {A : Option Addr} {m c : Nat} {bs : B} {w : World} (hs : Sl S w A m c bs) (hm : m ≤ 140737488355328) (r : Res B) (hr : getText bs = r) :
    Calls Tryz.prog 50 #[.slice A m c] w fun e w' => ∃ A2 m2 c2, e = .returned (.tuple #[.string (str (rval [] r)), .slice A2 m2 c2, .int .i64 (rerr r)]) ∧ Sl S w' A2 m2 c2 (rrest r) ∧ Below w.heap.size w w' := by
  have hlen := Lib.hid hs.len
  subst hr
  unfold getText
  cases h : getN 2 bs with
  | error e =>
    obtain rfl := getN_err h
    have HG := Lib.hid h; clear h
    go_enter Tryz.func50, Tryz.ntmps50
    go_wp2_with (first
      | (go_at_call 68; refine (get_any hs (n := 2) (by omega) (by omega) _ HG.out).mono ?_; rintro e w1 ⟨A1, m1, c1, rfl, hsl, hb⟩))
    go_ret3
    exact ⟨_, _, _, rfl, Sl.nil, hb⟩
  | ok p =>
    obtain ⟨n, r⟩ := p
    have hrl : r.length ≤ 140737488355328 := by have := (getN_ok h).2.2.1; have h2 := hlen.out; rw [this, List.length_drop]; omega
    have HG := Lib.hid h; clear h
    have hR : ∃ q, takeN n r = q := ⟨_, rfl⟩
    obtain ⟨q, hq⟩ := hR
    have HQ := Lib.hid hq; clear hq
    simp only [HQ.out]
    go_enter Tryz.func50, Tryz.ntmps50
    go_wp2_with (first
      | (go_at_call 68; refine (get_any hs (n := 2) (by omega) (by omega) _ HG.out).mono ?_; rintro e w1 ⟨A1, m1, c1, rfl, hsl, hb⟩)
      | (go_at_call 80; refine (counted_any hsl (by have := hsl.len; simp at this; omega) _ (by omega) q (by simpa using HQ.out)).mono ?_; rintro e w2 ⟨A2, m2, c2, rfl, hsl2, hb2⟩))
    go_ret3
    exact ⟨_, _, _, rfl, hsl2, hb.trans (hb2.mono hb.size)⟩

set_option maxRecDepth 100000 in
theorem number_any {S : Nat → Prop} {A : Option Addr} {m c : Nat} {bs : B} {w : World} (hs : Sl S w A m c bs) (r : Res Int) (hr : getNum bs = r) :
    Calls Tryz.prog 94 #[.slice A m c] w fun e w' => ∃ A2 m2 c2, e = .returned (.tuple #[.int .i64 (rval 0 r), .slice A2 m2 c2, .int .i64 (rerr r)]) ∧ Sl S w' A2 m2 c2 (rrest r) ∧ Below w.heap.size w w' := by
  subst hr
  unfold getNum
  cases h : getN 4 bs with
  | error e =>
    obtain rfl := getN_err h
    have HG := Lib.hid h; clear h
    go_enter Tryz.func94, Tryz.ntmps94
    go_wp2_with (first
      | (go_at_call 68; refine (get_any hs (n := 4) (by omega) (by omega) _ HG.out).mono ?_; rintro e w1 ⟨A1, m1, c1, rfl, hsl, hb⟩)
      | (go_at_call 103; refine (signed4 _ _ (by omega) (by omega)).mono ?_; rintro e w2 ⟨rfl, rfl⟩))
    go_ret3
    exact ⟨_, _, _, rfl, hsl, hb⟩
  | ok p =>
    obtain ⟨x, r⟩ := p
    have hx : (x : Int) < 4294967296 := by have := (getN_ok h).2.2.2; omega
    have HG := Lib.hid h; clear h
    go_enter Tryz.func94, Tryz.ntmps94
    go_wp2_with (first
      | (go_at_call 68; refine (get_any hs (n := 4) (by omega) (by omega) _ HG.out).mono ?_; rintro e w1 ⟨A1, m1, c1, rfl, hsl, hb⟩)
      | (go_at_call 103; refine (signed4 _ _ (by omega) (by omega)).mono ?_; rintro e w2 ⟨rfl, rfl⟩))
    go_ret3
    exact ⟨_, _, _, rfl, hsl, hb⟩

set_option maxRecDepth 100000 in
theorem enc_null : enc 4 18446744073709551615 = [255, 255, 255, 255] := by decide +kernel
set_option maxRecDepth 100000 in
theorem enc_unset : enc 4 18446744073709551614 = [255, 255, 255, 254] := by decide +kernel

set_option maxRecDepth 100000 in
theorem put_null (k : Int) (bs : B) (hk : k = -1 ∧ bs = [255, 255, 255, 255] ∨ k = -2 ∧ bs = [255, 255, 255, 254]) (w : World) :
    Calls Tryz.prog 70 #[.int .u64 (IntKind.u64.wrap k), .int .i64 4] w fun e w' => ∃ A m c, e = .returned (.slice A m c) ∧ Own w.heap.size w' A m c bs ∧ Below w.heap.size w w' := by
  have h := put_any (IntKind.u64.wrap k) 4 w (by omega) (by omega) (by rcases hk with h | h <;> rw [h.1] <;> decide) (by rcases hk with h | h <;> rw [h.1] <;> decide)
  have e : enc 4 (IntKind.u64.wrap k).toNat = bs := by
    rcases hk with ⟨rfl, rfl⟩ | ⟨rfl, rfl⟩
    · exact enc_null
    · exact enc_unset
  rw [e] at h
  exact h

set_option maxRecDepth 100000 in
theorem value_any {S : Nat → Prop} {A : Option Addr} {m c : Nat} {v : Val} {w : World} (hs : Sl S w A m c v.bytes) (hm : m ≤ 140737488355324) (r : Wr) (hr : value v = r) :
    Calls Tryz.prog 62 #[.agg #[.int .i64 v.kind, .slice A m c]] w fun e w' => ∃ A n c, e = .returned (.tuple #[.slice A n c, .int .i64 (werr r)]) ∧ Own w.heap.size w' A n c (wval r) ∧ Below w.heap.size w w' := by
  obtain ⟨k, bs⟩ := v
  have hlen := Lib.hid hs.len
  subst hr
  unfold value
  simp only at hs ⊢
  by_cases h0 : k = 0
  · subst h0
    go_enter Tryz.func62, Tryz.ntmps62
    go_wp2_with (first
      | (go_at_call 70; refine (put_null _ _ (.inl ⟨rfl, rfl⟩) _).mono ?_; rintro e w1 ⟨A1, m1, c1, rfl, ho, hb⟩))
    go_ret2
    exact ⟨_, _, _, rfl, ho.mono (by simp), ((Below.refl _ _).alloc (Nat.le_refl _) _).trans (hb.mono (by simp))⟩
  · by_cases h1 : k = 1
    · subst h1
      go_enter Tryz.func62, Tryz.ntmps62
      go_wp2_with (first
        | (go_at_call 70; refine (put_null _ _ (.inr ⟨rfl, rfl⟩) _).mono ?_; rintro e w1 ⟨A1, m1, c1, rfl, ho, hb⟩))
      go_ret2
      exact ⟨_, _, _, rfl, ho.mono (by simp), ((Below.refl _ _).alloc (Nat.le_refl _) _).trans (hb.mono (by simp))⟩
    · by_cases h2 : k = 2
      · subst h2
        go_enter Tryz.func62, Tryz.ntmps62
        have hlu := Lib.hid (show m + 4 ≤ 140737488355328 by omega)
        have hwrap : IntKind.u64.wrap (m : Int) = m := by rw [IntKind.wrap_u64]; omega
        go_wp2_with fail
        go_region_law (first
          | (refine step_app rfl (.tmp 20) (.tmp 22) rfl w.heap.size _ _ _ _ rfl (ho.mono (by simp)) S _ _ _ bs rfl (hs.after hbw) (by rw [enc_length]; have := hlu.out; have := hlen.out; omega) (by have := hb.size; simp at this; omega) ?_; intro A2 n2 c2 w2 hown2 hg2)
          | (go_simp; go_at_call 70; refine (put_any _ 4 _ (by omega) (by omega) (by omega) (by omega)).mono ?_; rintro e w1 ⟨A1, m1, c1, rfl, ho, hb⟩; have hbw : Below w.heap.size w w1 := Below.trans (by repeat (first | exact Below.refl _ _ | assumption | refine Below.drew ?_ | refine below_drewN ?_ _ | refine Below.alloc ?_ (by simp) _ | refine Below.setCell ?_ (by simp) _)) (hb.mono (by simp)); have k1 : w1.cell? ⟨w.heap.size, 1, none⟩ = some (.slice A m c) := (hb.cell (p := ⟨w.heap.size, 1, none⟩) (by simp)).trans (by go_simp)))
        all_goals
          go_wp2_with fail
          go_ret2
          refine ⟨_, _, _, rfl, ?_, hbw.grown hg2 hbw.size (fun k hk => Nat.le_trans (by simp) (ho.block k hk).1)⟩
          have e : enc 4 (m : Int).toNat ++ bs = long bs := by unfold long; rw [← hlen.out]; rfl
          rw [e] at hown2
          exact hown2
      · have e0 : (k == 0) = false := by simp; omega
        have e1 : (k == 1) = false := by simp; omega
        have e2 : (k == 2) = false := by simp; omega
        go_enter Tryz.func62, Tryz.ntmps62
        go_wp2_with fail
        go_ret2
        exact ⟨_, _, _, rfl, Own.nil, (Below.refl _ _).alloc (Nat.le_refl _) _⟩

set_option maxRecDepth 100000 in
theorem getValue_any {S : Nat → Prop} {A : Option Addr} {m c : Nat} {bs : B} {w : World} (hs : Sl S w A m c bs) (hm : m ≤ 140737488355328) (r : Res Val) (hr : getValue bs = r) :
    Calls Tryz.prog 61 #[.slice A m c] w fun e w' => ∃ A1 m1 c1 A2 m2 c2, e = .returned (.tuple #[.agg #[.int .i64 (rval Val.none r).kind, .slice A1 m1 c1], .slice A2 m2 c2, .int .i64 (rerr r)]) ∧
      Sl (fun b => w.heap.size ≤ b) w' A1 m1 c1 (rval Val.none r).bytes ∧ Sl S w' A2 m2 c2 (rrest r) ∧ Below w.heap.size w w' := by
  have hlen := Lib.hid hs.len
  subst hr
  unfold getValue
  cases h : getNum bs with
  | error e =>
    obtain rfl := getNum_err h
    have HG := Lib.hid h; clear h
    go_enter Tryz.func61, Tryz.ntmps61
    go_wp2_with (first
      | (go_at_call 94; refine (number_any (hs.lt.after (by repeat (first | exact Below.refl _ _ | assumption | refine Below.drew ?_ | refine below_drewN ?_ _ | refine Below.alloc ?_ (by simp) _ | refine Below.setCell ?_ (by simp) _))) _ HG.out).mono ?_; rintro e w1 ⟨A1, m1, c1, rfl, hsl, hb⟩; have hbw1 : Below w.heap.size w w1 := Below.trans (by repeat (first | exact Below.refl _ _ | assumption | refine Below.drew ?_ | refine below_drewN ?_ _ | refine Below.alloc ?_ (by simp) _ | refine Below.setCell ?_ (by simp) _)) (hb.mono (by simp)); obtain ⟨hc, hf⟩ := bcell hb; have hz1 : w.heap.size < w1.heap.size := by (have := hb.size; simp at this; omega)))
    refine bodyPost_ret (v := .tuple #[.agg #[.int .i64 0, .slice none 0 0], .slice none 0 0, .int .i64 10]) (by simp [results, Tryz.results61, go_sem, hc]) rfl ?_
    exact ⟨_, _, _, _, _, _, rfl, Sl.nil, Sl.nil, (by repeat (first | exact Below.refl _ _ | assumption | refine Below.drew ?_ | refine below_drewN ?_ _ | refine Below.alloc ?_ (by simp) _ | refine Below.setCell ?_ (by simp) _))⟩
  | ok p =>
    obtain ⟨n, r⟩ := p
    have hrl : r.length ≤ 140737488355328 := by have h1 := (getNum_ok h).2.1; have h2 := hlen.out; rw [h1, List.length_drop]; omega
    have hn1 := (getNum_ok h).2.2.1
    have hn2 := (getNum_ok h).2.2.2.1
    have HG := Lib.hid h; clear h
    by_cases hm1 : n = -1
    · subst hm1
      clear hn1 hn2
      go_enter Tryz.func61, Tryz.ntmps61
      go_wp2_with (first
        | (go_at_call 94; refine (number_any (hs.lt.after (by repeat (first | exact Below.refl _ _ | assumption | refine Below.drew ?_ | refine below_drewN ?_ _ | refine Below.alloc ?_ (by simp) _ | refine Below.setCell ?_ (by simp) _))) _ HG.out).mono ?_; rintro e w1 ⟨A1, m1, c1, rfl, hsl, hb⟩; have hbw1 : Below w.heap.size w w1 := Below.trans (by repeat (first | exact Below.refl _ _ | assumption | refine Below.drew ?_ | refine below_drewN ?_ _ | refine Below.alloc ?_ (by simp) _ | refine Below.setCell ?_ (by simp) _)) (hb.mono (by simp)); obtain ⟨hc, hf⟩ := bcell hb; have hz1 : w.heap.size < w1.heap.size := by (have := hb.size; simp at this; omega)))
      refine bodyPost_ret (v := .tuple #[.agg #[.int .i64 0, .slice none 0 0], .slice A1 m1 c1, .int .i64 0]) (by simp [results, Tryz.results61, go_sem, hc]) rfl ?_
      exact ⟨_, _, _, _, _, _, rfl, Sl.nil, hsl.fin (by repeat (first | exact Below.refl _ _ | assumption | refine Below.drew ?_ | refine below_drewN ?_ _ | refine Below.alloc ?_ (by simp) _ | refine Below.setCell ?_ (by simp) _)), (by repeat (first | exact Below.refl _ _ | assumption | refine Below.drew ?_ | refine below_drewN ?_ _ | refine Below.alloc ?_ (by simp) _ | refine Below.setCell ?_ (by simp) _))⟩
    · by_cases hm2 : n = -2
      · subst hm2
        clear hn1 hn2
        go_enter Tryz.func61, Tryz.ntmps61
        go_wp2_with (first
          | (go_at_call 94; refine (number_any (hs.lt.after (by repeat (first | exact Below.refl _ _ | assumption | refine Below.drew ?_ | refine below_drewN ?_ _ | refine Below.alloc ?_ (by simp) _ | refine Below.setCell ?_ (by simp) _))) _ HG.out).mono ?_; rintro e w1 ⟨A1, m1, c1, rfl, hsl, hb⟩; have hbw1 : Below w.heap.size w w1 := Below.trans (by repeat (first | exact Below.refl _ _ | assumption | refine Below.drew ?_ | refine below_drewN ?_ _ | refine Below.alloc ?_ (by simp) _ | refine Below.setCell ?_ (by simp) _)) (hb.mono (by simp)); obtain ⟨hc, hf⟩ := bcell hb; have hz1 : w.heap.size < w1.heap.size := by (have := hb.size; simp at this; omega)))
        refine bodyPost_ret (v := .tuple #[.agg #[.int .i64 1, .slice none 0 0], .slice A1 m1 c1, .int .i64 0]) (by simp [results, Tryz.results61, go_sem, hc]) rfl ?_
        exact ⟨_, _, _, _, _, _, rfl, Sl.nil, hsl.fin (by repeat (first | exact Below.refl _ _ | assumption | refine Below.drew ?_ | refine below_drewN ?_ _ | refine Below.alloc ?_ (by simp) _ | refine Below.setCell ?_ (by simp) _)), (by repeat (first | exact Below.refl _ _ | assumption | refine Below.drew ?_ | refine below_drewN ?_ _ | refine Below.alloc ?_ (by simp) _ | refine Below.setCell ?_ (by simp) _))⟩
      · by_cases hneg : n < 0
        · simp only [hm1, hm2, hneg, if_false, if_true]
          have e1 : (n == -1) = false := by simp; omega
          have e2 : (n == -2) = false := by simp; omega
          clear hm1 hm2
          go_enter Tryz.func61, Tryz.ntmps61
          go_wp2_with (first
            | (go_at_call 94; refine (number_any (hs.lt.after (by repeat (first | exact Below.refl _ _ | assumption | refine Below.drew ?_ | refine below_drewN ?_ _ | refine Below.alloc ?_ (by simp) _ | refine Below.setCell ?_ (by simp) _))) _ HG.out).mono ?_; rintro e w1 ⟨A1, m1, c1, rfl, hsl, hb⟩; have hbw1 : Below w.heap.size w w1 := Below.trans (by repeat (first | exact Below.refl _ _ | assumption | refine Below.drew ?_ | refine below_drewN ?_ _ | refine Below.alloc ?_ (by simp) _ | refine Below.setCell ?_ (by simp) _)) (hb.mono (by simp)); obtain ⟨hc, hf⟩ := bcell hb; have hz1 : w.heap.size < w1.heap.size := by (have := hb.size; simp at this; omega)))
          refine bodyPost_ret (v := .tuple #[.agg #[.int .i64 0, .slice none 0 0], .slice none 0 0, .int .i64 11]) (by simp [results, Tryz.results61, go_sem, hc]) rfl ?_
          exact ⟨_, _, _, _, _, _, rfl, Sl.nil, Sl.nil, (by repeat (first | exact Below.refl _ _ | assumption | refine Below.drew ?_ | refine below_drewN ?_ _ | refine Below.alloc ?_ (by simp) _ | refine Below.setCell ?_ (by simp) _))⟩
        · simp only [hm1, hm2, hneg, if_false]
          obtain ⟨q, hq⟩ : ∃ q, takeN n.toNat r = q := ⟨_, rfl⟩
          have e1 : (n == -1) = false := by simp; omega
          have e2 : (n == -2) = false := by simp; omega
          clear hm1 hm2
          cases q with
          | error e =>
            obtain rfl := takeN_err hq
            have HQ := Lib.hid hq; clear hq
            simp only [HQ.out]
            go_enter Tryz.func61, Tryz.ntmps61
            go_wp2_with (first
              | (go_at_call 94; refine (number_any (hs.lt.after (by repeat (first | exact Below.refl _ _ | assumption | refine Below.drew ?_ | refine below_drewN ?_ _ | refine Below.alloc ?_ (by simp) _ | refine Below.setCell ?_ (by simp) _))) _ HG.out).mono ?_; rintro e w1 ⟨A1, m1, c1, rfl, hsl, hb⟩; have hbw1 : Below w.heap.size w w1 := Below.trans (by repeat (first | exact Below.refl _ _ | assumption | refine Below.drew ?_ | refine below_drewN ?_ _ | refine Below.alloc ?_ (by simp) _ | refine Below.setCell ?_ (by simp) _)) (hb.mono (by simp)); obtain ⟨hc, hf⟩ := bcell hb; have hz1 : w.heap.size < w1.heap.size := by (have := hb.size; simp at this; omega))
              | (go_at_call 95; refine (take_any hsl (by have := hsl.len; simp at this; omega) _ (by omega) _ (by simpa using HQ.out)).mono ?_; rintro e w2 ⟨A3, m3, c3, A4, m4, c4, rfl, ho2, hsl2, hb2⟩; obtain ⟨hc2, hf2⟩ := bcell hb2))
            refine bodyPost_ret (v := .tuple #[.agg #[.int .i64 0, .slice none 0 0], .slice none 0 0, .int .i64 10]) (by simp [results, Tryz.results61, go_sem, hc, hc2, hz1]) rfl ?_
            exact ⟨_, _, _, _, _, _, rfl, Sl.nil, Sl.nil, (hbw1.trans (hb2.mono (by omega))).trans (by repeat (first | exact Below.refl _ _ | assumption | refine Below.drew ?_ | refine below_drewN ?_ _ | refine Below.alloc ?_ (by simp) _ | refine Below.setCell ?_ (by simp) _))⟩
          | ok y =>
            obtain ⟨x, r2⟩ := y
            have HQ := Lib.hid hq; clear hq
            simp only [HQ.out]
            go_enter Tryz.func61, Tryz.ntmps61
            go_wp2_with (first
              | (go_at_call 94; refine (number_any (hs.lt.after (by repeat (first | exact Below.refl _ _ | assumption | refine Below.drew ?_ | refine below_drewN ?_ _ | refine Below.alloc ?_ (by simp) _ | refine Below.setCell ?_ (by simp) _))) _ HG.out).mono ?_; rintro e w1 ⟨A1, m1, c1, rfl, hsl, hb⟩; have hbw1 : Below w.heap.size w w1 := Below.trans (by repeat (first | exact Below.refl _ _ | assumption | refine Below.drew ?_ | refine below_drewN ?_ _ | refine Below.alloc ?_ (by simp) _ | refine Below.setCell ?_ (by simp) _)) (hb.mono (by simp)); obtain ⟨hc, hf⟩ := bcell hb; have hz1 : w.heap.size < w1.heap.size := by (have := hb.size; simp at this; omega))
              | (go_at_call 95; refine (take_any hsl (by have := hsl.len; simp at this; omega) _ (by omega) _ (by simpa using HQ.out)).mono ?_; rintro e w2 ⟨A3, m3, c3, A4, m4, c4, rfl, ho2, hsl2, hb2⟩; obtain ⟨hc2, hf2⟩ := bcell hb2))
            refine bodyPost_ret (v := .tuple #[.agg #[.int .i64 2, .slice A3 m3 c3], .slice A4 m4 c4, .int .i64 0]) (by simp [results, Tryz.results61, go_sem, hc, hc2, hz1]) rfl ?_
            refine ⟨_, _, _, _, _, _, rfl, ((ho2.sl.setCell (fun b h => by simp; omega) _).setCell (fun b h => by simp; omega) _).mono (fun b h _ => by omega), hsl2.fin (by repeat (first | exact Below.refl _ _ | assumption | refine Below.drew ?_ | refine below_drewN ?_ _ | refine Below.alloc ?_ (by simp) _ | refine Below.setCell ?_ (by simp) _)), (hbw1.trans (hb2.mono (by omega))).trans (by repeat (first | exact Below.refl _ _ | assumption | refine Below.drew ?_ | refine below_drewN ?_ _ | refine Below.alloc ?_ (by simp) _ | refine Below.setCell ?_ (by simp) _))⟩

set_option maxRecDepth 100000 in
theorem consis_any (x : Int) (w : World) (h0 : 0 ≤ x) (hx : x < 65536) (r : Wr) (hr : cons x.toNat = r) :
    Calls Tryz.prog 73 #[.int .u16 x] w fun e w' => ∃ A n c, e = .returned (.tuple #[.slice A n c, .int .i64 (werr r)]) ∧ Own w.heap.size w' A n c (wval r) ∧ Below w.heap.size w w' := by
  subst hr
  unfold cons
  by_cases h : 10 < x
  · rw [if_pos (by omega)]
    go_enter Tryz.func73, Tryz.ntmps73
    go_wp2_with fail
    go_ret2
    exact ⟨_, _, _, rfl, Own.nil, Below.refl _ _⟩
  · rw [if_neg (by omega)]
    go_enter Tryz.func73, Tryz.ntmps73
    go_wp2_with (first
      | (go_at_call 70; refine (put_any _ 2 _ (by omega) (by omega) (by omega) (by omega)).mono ?_; rintro e w1 ⟨A, m, c, rfl, ho, hb⟩))
    go_ret2
    exact ⟨_, _, _, rfl, ho, hb⟩
end Go.Proofs.Sb
