/- The walk over reply.Put. Conditions: the bounds of RpB. -/
import Derived.Test.YtfeeeighafflnaaGreatStn
import Derived.Test.YtfeeeighafflnaaGreatRole
import Derived.Deep.DeepCutAuto
import Derived.Deep.CutBlock
set_option linter.unusedVariables false
set_option linter.unusedSimpArgs false
namespace Sb
theorem putRp_ne {x : Rp} {e : Int} (h : putRp x = .error e) : e ≠ 0 := by
  have hw : ∀ (ws : List B) (y : B) (e : Int), wordW ws y = .error e → e ≠ 0 := fun ws y e h => by
    unfold wordW at h
    split at h
    · exact text_ne h
    · injection h with h; subst h; decide
  have hb : ∀ (a b : Wr), (∀ e, a = .error e → e ≠ 0) → (∀ e, b = .error e → e ≠ 0) → ∀ e, bothW a b = .error e → e ≠ 0 := fun a b ha hb e h => by
    cases a with
    | error y => injection h with h; exact ha e (by rw [h])
    | ok y => cases b with
      | error z => injection h with h; exact hb e (by rw [h])
      | ok z => cases h
  have ho : ∀ (y : B) (e : Int), (.ok y : Wr) = .error e → e ≠ 0 := fun y e h => by cases h
  have ht : ∀ (y : B) (e : Int), text y = .error e → e ≠ 0 := fun y e h => text_ne h
  have hn : ∀ (i : Int) (e : Int), num4W i = .error e → e ≠ 0 := fun i e h => by cases h
  have hc : ∀ (i : Nat) (e : Int), cons i = .error e → e ≠ 0 := fun i e h => spz_level h
  have hcnt : ∀ (f : Flt) (r : Wr), (∀ e, r = .error e → e ≠ 0) → ∀ e, cntsW f r = .error e → e ≠ 0 := fun f r hr => hb _ _ (hc _) (hb _ _ (hn _) (hb _ _ (hn _) hr))
  have hchg : ∀ (c : Chg) (e : Int), chgW c = .error e → e ≠ 0 := fun c => hb _ _ (hw _ _) (hb _ _ (hw _ _) (hb _ _ (ht _) (by
    intro e h
    unfold tailW at h
    split at h
    · exact hb _ _ (ht _) (fun e h => texts_ne h) e h
    · split at h
      · exact ht _ e h
      · exact ho _ e h)))
  unfold putRp at h
  split at h
  · refine hb _ _ (ho _) (hb _ _ (ht _) ?_) e h
    intro e h
    unfold fltTW at h
    split at h
    · exact hb _ _ (hc _) (hb _ _ (hn _) (hn _)) e h
    split at h
    · exact hcnt _ _ (ht _) e h
    split at h
    · exact hcnt _ _ (ho _) e h
    split at h
    · exact hcnt _ _ (hb _ _ (hn _) (ho _)) e h
    split at h
    · exact hcnt _ _ (hb _ _ (hn _) (ht _)) e h
    split at h
    · exact hb _ _ (ht _) (hb _ _ (ht _) (fun e h => texts_ne h)) e h
    split at h
    · exact hb _ _ (ht _) (ht _) e h
    split at h
    · exact ht _ e h
    · exact ho _ e h
  split at h
  · exact ho _ e h
  split at h
  · exact ht _ e h
  split at h
  · exact putL_ne (fun _ _ h => multiW_ne h) h
  split at h
  · refine hb _ _ (ho _) ?_ e h
    intro e h
    unfold resTW at h
    split at h
    · exact ho _ e h
    split at h
    · exact ht _ e h
    split at h
    · exact hchg _ e h
    split at h
    · exact hb _ _ (ht _) (ho _) e h
    split at h
    · exact ho _ e h
    · injection h with h; subst h; decide
  split at h
  · refine hb _ _ (hw _ _) ?_ e h
    intro e h
    split at h
    · exact hchg _ e h
    · exact hb _ _ (hw _ _) (fun e h => spz_inet h) e h
  split at h
  · exact value_ne h
  · injection h with h; subst h; decide
end Sb
namespace Go.Proofs.Sb
open Go.RowKit _root_.Sb
set_option maxHeartbeats 16000000 in
set_option maxRecDepth 100000 in
theorem rPut9_any {S : Nat → Prop} {w : World} {x : Rp} {t : Trs} (hR : RpR S w x t) (hD : RpB x) (hM : ∃ M, (∀ y ∈ x.support, ∀ b, multiW y = .ok b → b.length ≤ M) ∧ 2 + x.support.length * M ≤ 140737488000000) (r : Wr) (hr : putRp x = r) :
    Calls Tryz.prog 7 #[.agg (rpT x t).toArray] w fun e w' => ∃ A n c, e = .returned (.tuple #[.slice A n c, .int .i64 (werr r)]) ∧ Sl (fun b => w.heap.size ≤ b) w' A n c (wval r) ∧ Below w.heap.size w w' := by
  have HR := Lib.hid (goesRp.mono (S' := fun b => S b ∧ b < w.heap.size) hR fun b h1 h2 => ⟨h1, h2⟩); clear hR
  have HD := Lib.hid hD; clear hD
  have HM := Lib.hid hM; clear hM
  have HRR := Lib.hid hr; clear hr
  obtain ⟨vs, hvs⟩ : ∃ vs, vs = rpT x t := ⟨_, rfl⟩
  rw [← hvs]
  have HVS := Lib.hid hvs
  have hvl : vs.length = 34 := by rw [hvs]; rfl
  clear hvs
  go_enter Tryz.func7, Tryz.ntmps7
  go_upto_block 2 with fail
  obtain ⟨w1, hw1⟩ : ∃ w1, w1 = ((w.alloc (.cells vs.toArray 40)).alloc (.cells #[.bool true, .slice none 0 0, .int .i64 0] 68)) := ⟨_, rfl⟩
  rw [← hw1]
  have b1 : Below w.heap.size w (w.alloc (.cells vs.toArray 40)) := (Below.refl _ _).alloc (Nat.le_refl _) _
  have hz0 : (w.alloc (.cells vs.toArray 40)).heap.size = w.heap.size + 1 := World.size_alloc _ _
  have hz1 : w1.heap.size = w.heap.size + 2 := by rw [hw1]; simp
  have b2 : Below (w.alloc (.cells vs.toArray 40)).heap.size (w.alloc (.cells vs.toArray 40)) w1 := by rw [hw1]; exact (Below.refl _ _).alloc (Nat.le_refl _) _
  have hB1 : Below w.heap.size w w1 := by rw [hw1]; exact b1.alloc (by rw [hz0]; omega) _
  have hbx : Bx (fun b => b = w.heap.size) w1 w.heap.size vs := goesBx.after (Bx.alloc w vs.toArray 40 (S := fun b => b = w.heap.size) rfl rfl) b2
  have hst : Bx (fun b => b = w.heap.size + 1) w1 (w.heap.size + 1) [.bool true, .slice none 0 0, .int .i64 0] := by
    rw [hw1]
    exact Bx.alloc _ #[.bool true, .slice none 0 0, .int .i64 0] 68 (X := w.heap.size + 1) (S := fun b => b = w.heap.size + 1) (by simp) (by simp)
  have HST : Hid (StW (fun b => b = w.heap.size + 1) w1 (w.heap.size + 1) (.ok [])) := Lib.hid ⟨rfl, fun b hb => by rw [hz1, hb]; omega, none, 0, 0, [], OwnB.nil, hst, (fun b e => by cases e), (fun b e => by injection e), fun e h => by cases h⟩
  rw [HVS.out] at hbx
  have HBX := Lib.hid hbx
  have HB1 := Lib.hid hB1
  have HSZ := Lib.hid hz1
  clear b1 b2 hz0 hz1 hw1 hbx hst hB1
  go_wp2_with fail
  refine (wrm_parts (P := w.heap.size) HST.out HBX.out (goesRp.after HR.out HB1.out) (by omega) (fun b hb => by have := hb.2; omega) HD.out HM.out).mono ?_
  rintro e w2 ⟨rfl, T2, hk⟩
  have hb2 : Below w.heap.size w w2 := Below.trans HB1.out (hk.fr.below (N := w.heap.size) (by have := HB1.out.size; omega) fun b hb h => by omega)
  have HB2 := Lib.hid hb2; clear hb2
  obtain ⟨A, n, c, bs, h1, h2, h3, h4, h5⟩ := hk.at'.ex
  have hown : Hid (∀ b, T2 b → w.heap.size ≤ b) := Lib.hid fun b hb => by
    rcases hk.own b hb with h | h
    · omega
    · have := HSZ.out; omega
  have HO := Lib.hid h1; clear h1
  have k1 := h2.c 1 _ rfl
  have k2 := h2.c 2 _ rfl
  have hlt2 := h2.lt
  clear h2 h3 hk
  rw [HRR.out] at k2 h4 h5
  cases r with
  | error e =>
    have hne : (e != 0) = true := bne_iff_ne.2 (h5 e rfl)
    simp only [werr_error] at k2
    clear h4 h5
    go_wp2_with fail
    go_quiet (fail)
    go_wp2_with fail
    go_ret2
    exact ⟨none, 0, 0, rfl, Sl.nil, HB2.out.trans (Below.mono (show Below w2.heap.size w2 _ from (by repeat (first | exact Below.refl _ _ | assumption | refine Below.drew ?_ | refine below_drewN ?_ _ | refine Below.alloc ?_ (by simp) _ | refine Below.setCell ?_ (by simp) _))) HB2.out.size)⟩
  | ok b =>
    obtain rfl := h4 b rfl
    simp only [werr_ok] at k2
    clear h4 h5
    go_wp2_with fail
    go_ret2
    exact ⟨A, n, c, rfl, HO.out.sl.mono fun b hb _ => hown.out b hb, HB2.out⟩
end Go.Proofs.Sb
