/- Walks over the package maps: lists, two parts, and what is done with one element. Conditions: lengths up to 2^47. -/
import Derived.Test.YtdgmkmadlnmhbaaMaps
set_option linter.unusedVariables false
set_option linter.unusedSimpArgs false
namespace Go.Proofs.Sb
open Go.RowKit _root_.Sb

theorem texts_any {S : Nat → Prop} {A : Option Addr} {n c : Nat} {l : List B} {w : World} (hs : Arr 1 strP S w A n c l) (r : Wr) (hr : texts l = r) :
    Calls Try.prog 22 #[.slice A n c] w fun e w' => ∃ A1 n1 c1, e = .returned (.tuple #[.slice A1 n1 c1, .int .i64 (werr r)]) ∧ Own w.heap.size w' A1 n1 c1 (wval r) ∧ Below w.heap.size w w' := by
  have HR := Lib.hid hr; clear hr
  go_enter Try.func22, Try.ntmps22
  go_wp2_with fail
  refine (puts_any hs r HR.out).mono ?_
  rintro e w1 ⟨A1, n1, c1, rfl, ho, hb⟩
  go_wp2_with fail
  go_ret2
  exact ⟨_, _, _, rfl, ho, hb⟩

theorem getTexts_any {S : Nat → Prop} {A : Option Addr} {m c : Nat} {bs : B} {w : World} (hs : Sl S w A m c bs) (hm : m ≤ 140737488355328) (r : Res (List B)) (hr : getTexts bs = r) :
    Calls Try.prog 42 #[.slice A m c] w fun e w' => ∃ A1 n1 c1 A2 n2 c2, e = .returned (.tuple #[.slice A1 n1 c1, .slice A2 n2 c2, .int .i64 (rerr r)]) ∧ OwnA 9 1 strP w.heap.size w' A1 n1 c1 (rval [] r) ∧ Sl S w' A2 n2 c2 (rrest r) ∧ Below w.heap.size w w' := by
  have HR := Lib.hid hr; clear hr
  go_enter Try.func42, Try.ntmps42
  go_wp2_with fail
  refine (gets_any hs hm r HR.out).mono ?_
  rintro e w1 ⟨A1, n1, c1, A2, n2, c2, rfl, ho, hs2, hb⟩
  go_wp2_with fail
  go_ret3
  exact ⟨_, _, _, _, _, _, rfl, ho, hs2, hb⟩

theorem both_any {S : Nat → Prop} {A : Option Addr} {n c : Nat} {k : B} {v : Wr} {w : World} (hk : k.length ≤ 9223372036854775807) (hs : Sl S w A n c (wval v)) (hn : n ≤ 140737488289000) (hv : ∀ e, v = .error e → e ≠ 0) (r : Wr) (hr : bothW (text k) v = r) :
    Calls Try.prog 55 #[.string (str k), .slice A n c, .int .i64 (werr v)] w fun e w' => ∃ A1 n1 c1, e = .returned (.tuple #[.slice A1 n1 c1, .int .i64 (werr r)]) ∧ Own w.heap.size w' A1 n1 c1 (wval r) ∧ Below w.heap.size w w' := by
  have hlen := Lib.hid hs.len
  obtain ⟨q, hq⟩ : ∃ q, text k = q := ⟨_, rfl⟩
  rw [hq] at hr
  have HQ := Lib.hid hq; clear hq
  cases q with
  | error e1 =>
    have hne := text_ne HQ.out
    subst hr
    go_enter Try.func55, Try.ntmps55
    go_wp2_with fail
    refine (text_any k _ hk _ HQ.out).mono ?_
    rintro e w1 ⟨A1, n1, c1, rfl, ho, hb⟩
    go_wp2_with fail
    go_ret2
    exact ⟨_, _, _, rfl, Own.nil, hb⟩
  | ok y =>
    have hyl := (text_len HQ.out).1
    cases v with
    | error e2 =>
      have hne := hv e2 rfl
      clear hv
      subst hr
      go_enter Try.func55, Try.ntmps55
      go_wp2_with fail
      refine (text_any k _ hk _ HQ.out).mono ?_
      rintro e w1 ⟨A1, n1, c1, rfl, ho, hb⟩
      go_wp2_with fail
      go_ret2
      exact ⟨_, _, _, rfl, Own.nil, hb⟩
    | ok z =>
      subst hr
      go_enter Try.func55, Try.ntmps55
      go_wp2_with fail
      refine (text_any k _ hk _ HQ.out).mono ?_
      rintro e w1 ⟨A1, n1, c1, rfl, ho, hb⟩
      go_wp2_with (first | (at_builtin; refine wpList_app rfl _ _ rfl w.heap.size _ _ _ _ rfl ho _ _ _ _ z rfl (hs.after hb) (by have := hlen.out; simp at this; simp; omega) hb.size ?_; intro A4 m4 c4 w3 hown3 hg3))
      go_ret2
      exact ⟨_, _, _, rfl, hown3, hb.grown hg3 hb.size fun b e => (ho.block b e).1⟩

theorem pair_any {p : B × B} {w : World} (h1 : p.1.length ≤ 9223372036854775807) (h2 : p.2.length ≤ 9223372036854775807) (r : Wr) (hr : pairW p = r) :
    Calls Try.prog 53 #[.agg #[.string (str p.1), .string (str p.2)]] w fun e w' => ∃ A1 n1 c1, e = .returned (.tuple #[.slice A1 n1 c1, .int .i64 (werr r)]) ∧ Own w.heap.size w' A1 n1 c1 (wval r) ∧ Below w.heap.size w w' := by
  obtain ⟨k, x⟩ := p
  obtain ⟨q, hq⟩ : ∃ q, text x = q := ⟨_, rfl⟩
  simp only at h1 h2 ⊢
  unfold pairW at hr
  simp only [hq] at hr
  have HR := Lib.hid hr; clear hr
  have HQ := Lib.hid hq; clear hq
  go_enter Try.func53, Try.ntmps53
  go_wp2_with fail
  refine (text_any x _ h2 q HQ.out).mono ?_
  rintro e w1 ⟨A1, n1, c1, rfl, ho, hb⟩
  have k0 : w1.cell? ⟨w.heap.size, 0, none⟩ = some (.string (str k)) := kcell hb (by go_simp)
  have hbel : Below w.heap.size w w1 := Below.trans (by repeat (first | exact Below.refl _ _ | assumption | refine Below.drew ?_ | refine below_drewN ?_ _ | refine Below.alloc ?_ (by simp) _ | refine Below.setCell ?_ (by simp) _)) (hb.mono (by simp))
  go_wp2_with fail
  refine (both_any (v := q) h1 ho.sl (by cases q with | error e => have := ho.len; simp at this; omega | ok y => have := ho.len; have := (text_len HQ.out).1; simp at *; omega) (fun e h => by subst h; exact text_ne HQ.out) r HR.out).mono ?_
  rintro e w2 ⟨A2, n2, c2, rfl, ho2, hb2⟩
  go_wp2_with fail
  go_ret2
  exact ⟨_, _, _, rfl, ho2.mono hbel.size, seqB hbel hb2⟩

end Go.Proofs.Sb
