/- Walks over prims.length, Inet, GetInet, GetConsistency. Conditions: lengths up to 2^47. -/
import Derived.Test.YtfeeeighafflnaaGreatPrims
import Derived.Test.YtfeeeighafflnaaGreatRole
import Derived.Test.YtfeeeighafflnaaGreatConcat
set_option linter.unusedVariables false
set_option linter.unusedSimpArgs false
namespace Go.Proofs.Sb
open Go.RowKit _root_.Sb

theorem length_yes (x : Int) (w : World) (h : x = 4 ∨ x = 16) : Calls Tryz.prog 101 #[.int .i64 x] w fun e w' => e = .returned (.bool true) ∧ w = w' := by
  rcases h with rfl | rfl
  all_goals
    go_enter Tryz.func101, Tryz.ntmps101
    go_wp2_with fail
    go_ret
    exact ⟨rfl, rfl⟩
theorem length_no (x : Int) (w : World) (h : ¬ (x = 4 ∨ x = 16)) : Calls Tryz.prog 101 #[.int .i64 x] w fun e w' => e = .returned (.bool false) ∧ w = w' := by
  have h1 : (x == 4) = false := by simp; omega
  have h2 : (x == 16) = false := by simp; omega
  go_enter Tryz.func101, Tryz.ntmps101
  go_wp2_with fail
  go_ret
  exact ⟨rfl, rfl⟩

theorem getCons_any {S : Nat → Prop} {A : Option Addr} {m c : Nat} {bs : B} {w : World} (hs : Sl S w A m c bs) (r : Res Nat) (hr : getCons bs = r) :
    Calls Tryz.prog 72 #[.slice A m c] w fun e w' => ∃ A2 m2 c2, e = .returned (.tuple #[.int .u16 (rval 0 r : Nat), .slice A2 m2 c2, .int .i64 (rerr r)]) ∧ Sl S w' A2 m2 c2 (rrest r) ∧ Below w.heap.size w w' := by
  subst hr
  unfold getCons
  cases h : getN 2 bs with
  | error e =>
    obtain rfl := getN_err h
    have HG := Lib.hid h; clear h
    go_enter Tryz.func72, Tryz.ntmps72
    go_wp2_with fail
    refine (get_any (n := 2) hs (by omega) (by omega) _ HG.out).mono ?_
    rintro e w1 ⟨A1, m1, c1, rfl, hsl, hb⟩
    go_wp2_with fail
    go_ret3
    exact ⟨_, _, _, rfl, Sl.nil, hb⟩
  | ok p =>
    obtain ⟨x, r1⟩ := p
    have hx := (getN_ok h).2.2.2
    simp only [Nat.reducePow] at hx
    have HG := Lib.hid h; clear h
    by_cases h10 : x > 10
    · simp only [h10, if_true]
      have h10' : 10 < x := h10
      clear h10
      go_enter Tryz.func72, Tryz.ntmps72
      go_wp2_with fail
      refine (get_any (n := 2) hs (by omega) (by omega) _ HG.out).mono ?_
      rintro e w1 ⟨A1, m1, c1, rfl, hsl, hb⟩
      go_wp2_with fail
      go_ret3
      exact ⟨_, _, _, rfl, Sl.nil, hb⟩
    · simp only [h10, if_false]
      have h10' : x ≤ 10 := by omega
      clear h10
      go_enter Tryz.func72, Tryz.ntmps72
      go_wp2_with fail
      refine (get_any (n := 2) hs (by omega) (by omega) _ HG.out).mono ?_
      rintro e w1 ⟨A1, m1, c1, rfl, hsl, hb⟩
      go_wp2_with fail
      go_ret3
      exact ⟨_, _, _, rfl, hsl, hb⟩

set_option maxHeartbeats 1000000 in
set_option maxRecDepth 100000 in
theorem getInet_any {S : Nat → Prop} {A : Option Addr} {m c : Nat} {bs : B} {w : World} (hs : Sl S w A m c bs) (hm : m ≤ 140737488355328) (r : Res Adr) (hr : getInet bs = r) :
    Calls Tryz.prog 92 #[.slice A m c] w fun e w' => ∃ A1 m1 c1 A2 m2 c2, e = .returned (.tuple #[.agg #[.slice A1 m1 c1, .int .u32 ((rval Adr.none r).port : Nat)], .slice A2 m2 c2, .int .i64 (rerr r)]) ∧
      Sl (fun b => w.heap.size ≤ b) w' A1 m1 c1 (rval Adr.none r).addr ∧ Sl S w' A2 m2 c2 (rrest r) ∧ Below w.heap.size w w' := by
  have hlen := Lib.hid hs.len
  subst hr
  unfold getInet
  cases h : getN 1 bs with
  | error e =>
    obtain rfl := getN_err h
    have HG := Lib.hid h; clear h
    go_enter Tryz.func92, Tryz.ntmps92
    go_wp2_with fail
    refine (get_any (n := 1) (hs.lt.after (by repeat (first | exact Below.refl _ _ | assumption | refine Below.drew ?_ | refine below_drewN ?_ _ | refine Below.alloc ?_ (by simp) _ | refine Below.setCell ?_ (by simp) _))) (by omega) (by omega) _ HG.out).mono ?_
    rintro e w1 ⟨A1, m1, c1, rfl, hsl, hb⟩
    have hbw1 : Below w.heap.size w w1 := Below.trans (by repeat (first | exact Below.refl _ _ | assumption | refine Below.drew ?_ | refine below_drewN ?_ _ | refine Below.alloc ?_ (by simp) _ | refine Below.setCell ?_ (by simp) _)) (hb.mono (by simp)); obtain ⟨hc, hf⟩ := bcell hb; have hz1 : w.heap.size < w1.heap.size := by (have := hb.size; simp at this; omega)
    go_wp2_with fail
    refine bodyPost_ret (v := .tuple #[.agg #[.slice none 0 0, .int .u32 0], .slice none 0 0, .int .i64 10]) (by simp [results, Tryz.results92, go_sem, hc]) rfl ?_
    exact ⟨_, _, _, _, _, _, rfl, Sl.nil, Sl.nil, (by repeat (first | exact Below.refl _ _ | assumption | refine Below.drew ?_ | refine below_drewN ?_ _ | refine Below.alloc ?_ (by simp) _ | refine Below.setCell ?_ (by simp) _))⟩
  | ok p =>
    obtain ⟨x, r1⟩ := p
    have hx := (getN_ok h).2.2.2
    have hr1 : r1.length ≤ 140737488355328 := by have h1 := (getN_ok h).2.2.1; have h2 := hlen.out; rw [h1, List.length_drop]; omega
    simp only [Nat.reducePow] at hx
    have HG := Lib.hid h; clear h
    by_cases h4 : x = 4 ∨ x = 16
    · simp only [h4, if_true]
      have H4 : Hid (((x : Int) = 4 ∨ (x : Int) = 16)) := by show _ ∨ _; omega
      clear h4
      cases h2 : takeN x r1 with
      | error e =>
        obtain rfl := takeN_err h2
        have HT := Lib.hid h2; clear h2
        go_enter Tryz.func92, Tryz.ntmps92
        go_wp2_with fail
        refine (get_any (n := 1) (hs.lt.after (by repeat (first | exact Below.refl _ _ | assumption | refine Below.drew ?_ | refine below_drewN ?_ _ | refine Below.alloc ?_ (by simp) _ | refine Below.setCell ?_ (by simp) _))) (by omega) (by omega) _ HG.out).mono ?_
        rintro e w1 ⟨A1, m1, c1, rfl, hsl, hb⟩
        have hbw1 : Below w.heap.size w w1 := Below.trans (by repeat (first | exact Below.refl _ _ | assumption | refine Below.drew ?_ | refine below_drewN ?_ _ | refine Below.alloc ?_ (by simp) _ | refine Below.setCell ?_ (by simp) _)) (hb.mono (by simp)); obtain ⟨hc, hf⟩ := bcell hb; have hz1 : w.heap.size < w1.heap.size := by (have := hb.size; simp at this; omega)
        go_wp2_with fail
        refine (length_yes _ _ H4.out).mono ?_
        rintro e w1' ⟨rfl, rfl⟩
        go_wp2_with fail
        refine (take_any hsl (by have := hsl.len; simp at this; omega) _ (by omega) _ (by simpa using HT.out)).mono ?_
        rintro e w2 ⟨A3, m3, c3, A4, m4, c4, rfl, ho2, hsl2, hb2⟩
        obtain ⟨hc2, hf2⟩ := bcell hb2
        have hbw2 : Below w.heap.size w w2 := hbw1.trans (hb2.mono (by omega))
        go_wp2_with fail
        refine bodyPost_ret (v := .tuple #[.agg #[.slice none 0 0, .int .u32 0], .slice none 0 0, .int .i64 10]) (by simp [results, Tryz.results92, go_sem, hc, hc2, hz1]) rfl ?_
        exact ⟨_, _, _, _, _, _, rfl, Sl.nil, Sl.nil, (by repeat (first | exact Below.refl _ _ | assumption | refine Below.drew ?_ | refine below_drewN ?_ _ | refine Below.alloc ?_ (by simp) _ | refine Below.setCell ?_ (by simp) _))⟩
      | ok p2 =>
        obtain ⟨y, r2⟩ := p2
        have hr2 : r2.length ≤ 140737488355328 := by have h1 := (takeN_ok h2).2.2; rw [h1, List.length_drop]; omega
        have HT := Lib.hid h2; clear h2
        simp only
        cases h3 : getN 4 r2 with
        | error e =>
          obtain rfl := getN_err h3
          have HP := Lib.hid h3; clear h3
          go_enter Tryz.func92, Tryz.ntmps92
          go_wp2_with fail
          refine (get_any (n := 1) (hs.lt.after (by repeat (first | exact Below.refl _ _ | assumption | refine Below.drew ?_ | refine below_drewN ?_ _ | refine Below.alloc ?_ (by simp) _ | refine Below.setCell ?_ (by simp) _))) (by omega) (by omega) _ HG.out).mono ?_
          rintro e w1 ⟨A1, m1, c1, rfl, hsl, hb⟩
          have hbw1 : Below w.heap.size w w1 := Below.trans (by repeat (first | exact Below.refl _ _ | assumption | refine Below.drew ?_ | refine below_drewN ?_ _ | refine Below.alloc ?_ (by simp) _ | refine Below.setCell ?_ (by simp) _)) (hb.mono (by simp)); obtain ⟨hc, hf⟩ := bcell hb; have hz1 : w.heap.size < w1.heap.size := by (have := hb.size; simp at this; omega)
          go_wp2_with fail
          refine (length_yes _ _ H4.out).mono ?_
          rintro e w1' ⟨rfl, rfl⟩
          go_wp2_with fail
          refine (take_any hsl (by have := hsl.len; simp at this; omega) _ (by omega) _ (by simpa using HT.out)).mono ?_
          rintro e w2 ⟨A3, m3, c3, A4, m4, c4, rfl, ho2, hsl2, hb2⟩
          obtain ⟨hc2, hf2⟩ := bcell hb2
          have hz2 : w.heap.size < w2.heap.size := by have := hb2.size; omega
          have hbw2 : Below w.heap.size w w2 := hbw1.trans (hb2.mono (by omega))
          go_wp2_with fail
          refine (get_any (n := 4) hsl2 (by omega) (by omega) _ HP.out).mono ?_
          rintro e w3 ⟨A5, m5, c5, rfl, hsl3, hb3⟩
          obtain ⟨hc3, hf3⟩ := bcell hb3
          have hbw3 : Below w.heap.size w w3 := hbw2.trans (hb3.mono (by omega))
          go_wp2_with fail
          refine bodyPost_ret (v := .tuple #[.agg #[.slice none 0 0, .int .u32 0], .slice none 0 0, .int .i64 10]) (by simp [results, Tryz.results92, go_sem, hc, hc2, hc3, hz1, hz2]) rfl ?_
          exact ⟨_, _, _, _, _, _, rfl, Sl.nil, Sl.nil, (by repeat (first | exact Below.refl _ _ | assumption | refine Below.drew ?_ | refine below_drewN ?_ _ | refine Below.alloc ?_ (by simp) _ | refine Below.setCell ?_ (by simp) _))⟩
        | ok p3 =>
          obtain ⟨z, r3⟩ := p3
          have hz := (getN_ok h3).2.2.2
          simp only [Nat.reducePow] at hz
          have HP := Lib.hid h3; clear h3
          go_enter Tryz.func92, Tryz.ntmps92
          go_wp2_with fail
          refine (get_any (n := 1) (hs.lt.after (by repeat (first | exact Below.refl _ _ | assumption | refine Below.drew ?_ | refine below_drewN ?_ _ | refine Below.alloc ?_ (by simp) _ | refine Below.setCell ?_ (by simp) _))) (by omega) (by omega) _ HG.out).mono ?_
          rintro e w1 ⟨A1, m1, c1, rfl, hsl, hb⟩
          have hbw1 : Below w.heap.size w w1 := Below.trans (by repeat (first | exact Below.refl _ _ | assumption | refine Below.drew ?_ | refine below_drewN ?_ _ | refine Below.alloc ?_ (by simp) _ | refine Below.setCell ?_ (by simp) _)) (hb.mono (by simp)); obtain ⟨hc, hf⟩ := bcell hb; have hz1 : w.heap.size < w1.heap.size := by (have := hb.size; simp at this; omega)
          go_wp2_with fail
          refine (length_yes _ _ H4.out).mono ?_
          rintro e w1' ⟨rfl, rfl⟩
          go_wp2_with fail
          refine (take_any hsl (by have := hsl.len; simp at this; omega) _ (by omega) _ (by simpa using HT.out)).mono ?_
          rintro e w2 ⟨A3, m3, c3, A4, m4, c4, rfl, ho2, hsl2, hb2⟩
          obtain ⟨hc2, hf2⟩ := bcell hb2
          have hz2 : w.heap.size < w2.heap.size := by have := hb2.size; omega
          have hbw2 : Below w.heap.size w w2 := hbw1.trans (hb2.mono (by omega))
          go_wp2_with fail
          refine (get_any (n := 4) hsl2 (by omega) (by omega) _ HP.out).mono ?_
          rintro e w3 ⟨A5, m5, c5, rfl, hsl3, hb3⟩
          obtain ⟨hc3, hf3⟩ := bcell hb3
          have hbw3 : Below w.heap.size w w3 := hbw2.trans (hb3.mono (by omega))
          simp only [rval_ok, rrest_ok, rerr_ok] at *
          go_wp2_with fail
          refine bodyPost_ret (v := .tuple #[.agg #[.slice A3 m3 c3, .int .u32 (z : Int)], .slice A5 m5 c5, .int .i64 0]) (by simp [results, Tryz.results92, go_sem, hc, hc2, hc3, hz1, hz2]) rfl ?_
          exact ⟨_, _, _, _, _, _, rfl, (((ho2.after hb3).sl.setCell (fun b h => by simp; omega) _).setCell (fun b h => by simp; omega) _).mono (fun b h _ => by omega), hsl3.fin (by repeat (first | exact Below.refl _ _ | assumption | refine Below.drew ?_ | refine below_drewN ?_ _ | refine Below.alloc ?_ (by simp) _ | refine Below.setCell ?_ (by simp) _)), (by repeat (first | exact Below.refl _ _ | assumption | refine Below.drew ?_ | refine below_drewN ?_ _ | refine Below.alloc ?_ (by simp) _ | refine Below.setCell ?_ (by simp) _))⟩
    · simp only [h4, if_false]
      have H4 : Hid (¬ ((x : Int) = 4 ∨ (x : Int) = 16)) := by show ¬ _; omega
      clear h4
      go_enter Tryz.func92, Tryz.ntmps92
      go_wp2_with fail
      refine (get_any (n := 1) (hs.lt.after (by repeat (first | exact Below.refl _ _ | assumption | refine Below.drew ?_ | refine below_drewN ?_ _ | refine Below.alloc ?_ (by simp) _ | refine Below.setCell ?_ (by simp) _))) (by omega) (by omega) _ HG.out).mono ?_
      rintro e w1 ⟨A1, m1, c1, rfl, hsl, hb⟩
      have hbw1 : Below w.heap.size w w1 := Below.trans (by repeat (first | exact Below.refl _ _ | assumption | refine Below.drew ?_ | refine below_drewN ?_ _ | refine Below.alloc ?_ (by simp) _ | refine Below.setCell ?_ (by simp) _)) (hb.mono (by simp)); obtain ⟨hc, hf⟩ := bcell hb; have hz1 : w.heap.size < w1.heap.size := by (have := hb.size; simp at this; omega)
      go_wp2_with fail
      refine (length_no _ _ H4.out).mono ?_
      rintro e w1' ⟨rfl, rfl⟩
      go_wp2_with fail
      refine bodyPost_ret (v := .tuple #[.agg #[.slice none 0 0, .int .u32 0], .slice none 0 0, .int .i64 11]) (by simp [results, Tryz.results92, go_sem, hc]) rfl ?_
      exact ⟨_, _, _, _, _, _, rfl, Sl.nil, Sl.nil, (by repeat (first | exact Below.refl _ _ | assumption | refine Below.drew ?_ | refine below_drewN ?_ _ | refine Below.alloc ?_ (by simp) _ | refine Below.setCell ?_ (by simp) _))⟩
end Go.Proofs.Sb
