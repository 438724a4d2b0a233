/- Walks over the package maps: what reads one pair, one multi, one entry. Conditions: lengths up to 2^47. (written by gen_mapsget1.py) -/
import Derived.Test.YtdgmkmadlnmhbaaMapsb
set_option linter.unusedVariables false
set_option linter.unusedSimpArgs false
namespace Go.Proofs.Sb
open Go.RowKit _root_.Sb

theorem str_nil : str [] = ⟨#[]⟩ := rfl

theorem getPair1_any {S : Nat → Prop} {A : Option Addr} {m c : Nat} {bs : B} {w : World} (hs : Sl S w A m c bs) (hm : m ≤ 140737488355328) (r : Res (B × B)) (hr : pairR bs = r) :
    Calls Try.prog 69 #[.slice A m c] w fun e w' => ∃ x : B × B, ∃ A2 m2 c2, e = .returned (.tuple #[.agg #[.string (str x.1), .string (str x.2)], .slice A2 m2 c2, .int .i64 (rerr r)]) ∧ (∀ q, r = .ok q → x = q.1) ∧ x.1.length ≤ 140737488355328 ∧ x.2.length ≤ 140737488355328 ∧ Sl S w' A2 m2 c2 (rrest r) ∧ Below w.heap.size w w' := by
  have hlen := Lib.hid hs.len
  obtain ⟨rk, hrk⟩ : ∃ q, getText bs = q := ⟨_, rfl⟩
  unfold pairR bothR at hr
  rw [hrk] at hr
  have HK := Lib.hid hrk; clear hrk
  cases rk with
  | error e0 =>
    have hne := gt_ne HK.out
    subst hr
    go_enter Try.func69, Try.ntmps69
    go_wp2_with (first
      | (go_at_call 70; refine (getText_any (hs.lt.after (by repeat (first | exact Below.refl _ _ | assumption | refine Below.drew ?_ | refine below_drewN ?_ _ | refine Below.alloc ?_ (by simp) _ | refine Below.setCell ?_ (by simp) _))) (by omega) _ HK.out).mono ?_; rintro e w1 ⟨A1, m1, c1, rfl, hsl, hb⟩; have hbw1 : Below w.heap.size w w1 := Below.trans (by repeat (first | exact Below.refl _ _ | assumption | refine Below.drew ?_ | refine below_drewN ?_ _ | refine Below.alloc ?_ (by simp) _ | refine Below.setCell ?_ (by simp) _)) (hb.mono (by simp)); obtain ⟨hc, hf⟩ := bcell hb; have hz1 : w.heap.size < w1.heap.size := by (have := hb.size; simp at this; omega)))
    refine bodyPost_ret (v := .tuple #[.agg #[.string (str []), .string (str [])], .slice none 0 0, .int .i64 e0]) (by simp [results, Try.results69, go_sem, hc, str_nil]) rfl ?_
    exact ⟨([], []), _, _, _, rfl, (fun q h => (by cases h)), by simp, by simp, Sl.nil, (by repeat (first | exact Below.refl _ _ | assumption | refine Below.drew ?_ | refine below_drewN ?_ _ | refine Below.alloc ?_ (by simp) _ | refine Below.setCell ?_ (by simp) _))⟩
  | ok p =>
    obtain ⟨k, r1⟩ := p
    have hk1 := getText_ok HK.out
    have hr1 : r1.length ≤ 140737488355328 := by have := hlen.out; omega
    have hkl : k.length ≤ 140737488355328 := by omega
    clear hk1
    obtain ⟨q, hq⟩ : ∃ q, getText r1 = q := ⟨_, rfl⟩
    simp only [hq] at hr
    have HQ := Lib.hid hq; clear hq
    have hre : rerr r = rerr q ∧ rrest r = rrest q ∧ ∀ y, r = .ok y → y.1 = (k, rval [] q) := by
      subst hr
      cases q with
      | error e => exact ⟨rfl, rfl, fun y h => (by cases h)⟩
      | ok p => exact ⟨rfl, rfl, fun y h => (by injection h with h; rw [← h]; rfl)⟩
    obtain ⟨hre1, hre2, hre3⟩ := hre
    rw [hre1, hre2]
    clear hre1 hre2 hr
    go_enter Try.func69, Try.ntmps69
    go_wp2_with (first
      | (go_at_call 70; first | (refine (getText_any hsl (by have := hsl.len; simp at this; omega) _ HQ.out).mono ?_; rintro e w2 ⟨A4, m4, c4, rfl, hsl2, hb2⟩; obtain ⟨hc2, hf2⟩ := bcell hb2; have hz2 : w.heap.size < w2.heap.size := Nat.lt_of_lt_of_le hz1 hb2.size) | (refine (getText_any (hs.lt.after (by repeat (first | exact Below.refl _ _ | assumption | refine Below.drew ?_ | refine below_drewN ?_ _ | refine Below.alloc ?_ (by simp) _ | refine Below.setCell ?_ (by simp) _))) (by omega) _ HK.out).mono ?_; rintro e w1 ⟨A1, m1, c1, rfl, hsl, hb⟩; have hbw1 : Below w.heap.size w w1 := Below.trans (by repeat (first | exact Below.refl _ _ | assumption | refine Below.drew ?_ | refine below_drewN ?_ _ | refine Below.alloc ?_ (by simp) _ | refine Below.setCell ?_ (by simp) _)) (hb.mono (by simp)); obtain ⟨hc, hf⟩ := bcell hb; have hz1 : w.heap.size < w1.heap.size := by (have := hb.size; simp at this; omega)))
)
    refine bodyPost_ret (v := .tuple #[.agg #[.string (str k), .string (str (rval [] q))], .slice A4 m4 c4, .int .i64 (rerr q)]) (by simp [results, Try.results69, go_sem, hc, hc2, hz1, hz2]) rfl ?_
    refine ⟨(k, rval [] q), _, _, _, rfl, fun y h => (hre3 y h).symm, hkl, by cases q with | error e => simp | ok p => have := getText_ok HQ.out; simp; omega, hsl2.fin (by repeat (first | exact Below.refl _ _ | assumption | refine Below.drew ?_ | refine below_drewN ?_ _ | refine Below.alloc ?_ (by first | (simp; done) | omega | (simp; omega)) _ | refine Below.setCell ?_ (by first | (simp; done) | omega | (simp; omega)) _)), (hbw1.trans (hb2.mono (by omega))).trans (by repeat (first | exact Below.refl _ _ | assumption | refine Below.drew ?_ | refine below_drewN ?_ _ | refine Below.alloc ?_ (by first | (simp; done) | omega | (simp; omega)) _ | refine Below.setCell ?_ (by first | (simp; done) | omega | (simp; omega)) _))⟩

end Go.Proofs.Sb
