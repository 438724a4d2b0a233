/- The walk over signalboxlaw02.PrimsTexts: true at every input, and nothing that was there has turned. Conditions: lengths up to 2^47 - 4096. -/
import Derived.Test.YtfgdohdbabhplaaLawb
namespace Go.Proofs.Sb
open Go.RowKit _root_.Sb

theorem getText_ne {b : B} {e : Int} (h : getText b = .error e) : e ≠ 0 := by
  unfold getText at h
  cases hg : getN 2 b with
  | error e' => rw [hg] at h; injection h with h; have := getN_err hg; omega
  | ok p => obtain ⟨n, r⟩ := p; rw [hg] at h; have := takeN_err h; omega
theorem getLong_ne {b : B} {e : Int} (h : getLong b = .error e) : e ≠ 0 := by
  unfold getLong at h
  cases hg : getNum b with
  | error e' => rw [hg] at h; injection h with h; have := getNum_err hg; omega
  | ok p =>
    obtain ⟨n, r⟩ := p
    rw [hg] at h
    simp only at h
    split at h
    · injection h; omega
    · have := takeN_err h; omega

set_option maxHeartbeats 2000000 in
set_option maxRecDepth 100000 in
theorem primsTexts_small {S : Nat → Prop} {A : Option Addr} {m c : Nat} {bs s : B} {w : World} (hs : Sl S w A m c bs) (hm : m ≤ 3000) (hl : s.length ≤ 3000) :
    Calls Try.prog 5 #[.string (str s), .slice A m c] w fun e w' => e = .returned (.bool true) ∧ Below w.heap.size w w' := by
  obtain ⟨rt, hrt⟩ : ∃ r, text s = r := ⟨_, rfl⟩
  obtain ⟨rg, hrg⟩ : ∃ r, getText bs = r := ⟨_, rfl⟩
  obtain ⟨rl, hrl⟩ : ∃ r, getLong bs = r := ⟨_, rfl⟩
  have hng : ∀ e, rg = .error e → e ≠ 0 := fun e h => getText_ne (hrg.trans h)
  have hnl : ∀ e, rl = .error e → e ≠ 0 := fun e h => getLong_ne (hrl.trans h)
  have HT := Lib.hid hrt; clear hrt
  have HG := Lib.hid hrg; clear hrg
  have HL := Lib.hid hrl; clear hrl
  have HNG := Lib.hid hng; clear hng
  have HNL := Lib.hid hnl; clear hnl
  go_enter Try.func5, Try.ntmps5
  go_wp2_with fail
  refine (awake2 _).mono ?_
  rintro e w1 ⟨rfl, hb1⟩
  go_wp2_with fail
  refine (text_any s _ (by omega) rt HT.out).mono ?_
  rintro e w2 ⟨A2, m2, c2, rfl, ho2, hb2⟩
  go_wp2_with fail
  refine (rtext_any s _ (by omega) rt HT.out).mono ?_
  rintro e w3 ⟨A3, m3, c3, rfl, ho3, hb3⟩
  have hcv2 : ∀ w', Aft w3.drew w' → (convert 22 9 (.slice A2 m2 c2)).run Try.prog w' = .ok (.string (str (wval rt))) w' := fun w' h => conv_sl (((ho2.after hb3).after (Below.refl _ w3).drew).after h).sl
  have hcv3 : ∀ w', Aft w3.drew w' → (convert 22 9 (.slice A3 m3 c3)).run Try.prog w' = .ok (.string (str (wval rt))) w' := fun w' h => conv_sl ((ho3.after (Below.refl _ w3).drew).after h).sl
  go_wp2_with fail
  refine reg_start (by kernel_rfl) ?_
  (refine reg_take 0 (v := ?_) (by rfl) (by kernel_rfl) (by kernel_rfl) (by kernel_rfl) (by exact fun _ _ _ h => h) (by rfl) ?_ ?_; rotate_left; focus (intro w hSw; go_simp; try with_reducible rfl))
  simp only [Act.put, List.setIfInBounds_toArray, List.set_cons_zero, List.set_cons_succ]
  (refine reg_take 1 (v := ?_) (by rfl) (by kernel_rfl) (by kernel_rfl) (by kernel_rfl) (by exact fun _ _ _ h => h) (by rfl) ?_ ?_; rotate_left; focus (intro w hSw; go_simp; try with_reducible rfl))
  simp only [Act.put, List.setIfInBounds_toArray, List.set_cons_zero, List.set_cons_succ]
  (refine reg_take 2 (v := ?_) (by rfl) (by kernel_rfl) (by kernel_rfl) (by kernel_rfl) (by exact fun _ _ _ h => h) (by rfl) ?_ ?_; rotate_left; focus (intro w hSw; go_simp; try with_reducible rfl))
  simp only [Act.put, List.setIfInBounds_toArray, List.set_cons_zero, List.set_cons_succ]
  (refine reg_take 3 (v := ?_) (by rfl) (by kernel_rfl) (by kernel_rfl) (by kernel_rfl) (by exact fun _ _ _ h => h) (by rfl) ?_ ?_; rotate_left; focus (intro w hSw; go_simp; try with_reducible rfl))
  simp only [Act.put, List.setIfInBounds_toArray, List.set_cons_zero, List.set_cons_succ]
  (refine reg_take 4 (v := ?_) (by rfl) (by kernel_rfl) (by kernel_rfl) (by kernel_rfl) (by exact fun _ _ _ h => h) (by rfl) ?_ ?_; rotate_left; focus (intro w hSw; go_simp; try with_reducible rfl))
  simp only [Act.put, List.setIfInBounds_toArray, List.set_cons_zero, List.set_cons_succ]
  (refine reg_take 5 (v := ?_) (by rfl) (by kernel_rfl) (by kernel_rfl) (by kernel_rfl) (by exact fun _ _ _ h => h) (by rfl) ?_ ?_; rotate_left; focus (intro w hSw; go_simp; try with_reducible rfl))
  simp only [Act.put, List.setIfInBounds_toArray, List.set_cons_zero, List.set_cons_succ]
  first | (refine reg_skip 6 (by rfl) (by kernel_rfl) (by kernel_rfl) (by kernel_rfl) (by exact fun _ _ _ h => h) (by rfl) ?_) | (refine reg_take 6 (v := ?_) (by rfl) (by kernel_rfl) (by kernel_rfl) (by kernel_rfl) (by exact fun _ _ _ h => h) (by rfl) ?_ ?_; rotate_left; focus (intro w hSw; go_simp; try with_reducible rfl))
  simp only [Act.put, List.setIfInBounds_toArray, List.set_cons_zero, List.set_cons_succ]
  first | (refine reg_skip 7 (by rfl) (by kernel_rfl) (by kernel_rfl) (by kernel_rfl) (by exact fun _ _ _ h => h) (by rfl) ?_) | (refine reg_take 7 (v := ?_) (by rfl) (by kernel_rfl) (by kernel_rfl) (by kernel_rfl) (by exact fun _ _ _ h => h) (by rfl) ?_ ?_; rotate_left; focus (intro w hSw; go_simp; try with_reducible rfl))
  simp only [Act.put, List.setIfInBounds_toArray, List.set_cons_zero, List.set_cons_succ]
  first | (refine reg_skip 8 (by rfl) (by kernel_rfl) (by kernel_rfl) (by kernel_rfl) (by exact fun _ _ _ h => h) (by rfl) ?_) | (refine reg_take 8 (v := ?_) (by rfl) (by kernel_rfl) (by kernel_rfl) (by kernel_rfl) (by exact fun _ _ _ h => h) (by rfl) ?_ ?_; rotate_left; focus (intro w hSw; go_simp; try with_reducible rfl))
  simp only [Act.put, List.setIfInBounds_toArray, List.set_cons_zero, List.set_cons_succ]
  (refine reg_take 9 (v := ?_) (by rfl) (by kernel_rfl) (by kernel_rfl) (by kernel_rfl) (by exact fun _ _ _ h => h) (by rfl) ?_ ?_; rotate_left; focus (intro w hSw; go_simp; try with_reducible rfl))
  simp only [Act.put, List.setIfInBounds_toArray, List.set_cons_zero, List.set_cons_succ]
  (refine reg_take 10 (v := ?_) (by rfl) (by kernel_rfl) (by kernel_rfl) (by kernel_rfl) (by exact fun _ _ _ h => h) (by rfl) ?_ ?_; rotate_left; focus (intro w hSw; go_simp; try with_reducible rfl))
  simp only [Act.put, List.setIfInBounds_toArray, List.set_cons_zero, List.set_cons_succ]
  first | (refine reg_skip 11 (by rfl) (by kernel_rfl) (by kernel_rfl) (by kernel_rfl) (by exact fun _ _ _ h => h) (by rfl) ?_) | (refine reg_take 11 (v := ?_) (by rfl) (by kernel_rfl) (by kernel_rfl) (by kernel_rfl) (by exact fun _ _ _ h => h) (by rfl) ?_ ?_; rotate_left; focus (intro w hSw; go_simp; try with_reducible rfl))
  simp only [Act.put, List.setIfInBounds_toArray, List.set_cons_zero, List.set_cons_succ]
  first | (refine reg_skip 14 (by rfl) (by kernel_rfl) (by kernel_rfl) (by kernel_rfl) (by exact fun _ _ _ h => h) (by rfl) ?_) | (refine reg_take 14 (v := ?_) (by rfl) (by kernel_rfl) (by kernel_rfl) (by kernel_rfl) (by exact fun _ _ _ h => h) (by rfl) ?_ ?_; rotate_left; focus (intro w hSw; go_simp; try with_reducible rfl))
  simp only [Act.put, List.setIfInBounds_toArray, List.set_cons_zero, List.set_cons_succ]
  refine reg_call 12 (by kernel_rfl) (by rfl) (fun K hK => ?_)
  go_simp
  go_at_call 26; refine (long_any s _ (by omega)).mono ?_; rintro e w4 ⟨A4, m4, c4, rfl, ho4, hb4⟩; have hcv4 : ∀ w', Aft w4 w' → (convert 22 9 (.slice A4 m4 c4)).run Try.prog w' = .ok (.string (str (long s))) w' := fun w' h => conv_sl (ho4.after h).sl
  refine hK.out _ _ (hb4) ?_
  clear hK K
  try simp only [Act.put, List.setIfInBounds_toArray, List.set_cons_zero, List.set_cons_succ]
  first | (refine reg_skip 13 (by rfl) (by kernel_rfl) (by kernel_rfl) (by kernel_rfl) (by exact fun _ _ _ h => h) (by rfl) ?_) | (refine reg_take 13 (v := ?_) (by rfl) (by kernel_rfl) (by kernel_rfl) (by kernel_rfl) (by exact fun _ _ _ h => h) (by rfl) ?_ ?_; rotate_left; focus (intro w hSw; go_simp; try with_reducible rfl))
  simp only [Act.put, List.setIfInBounds_toArray, List.set_cons_zero, List.set_cons_succ]
  refine reg_call 15 (by kernel_rfl) (by rfl) (fun K hK => ?_)
  go_simp
  go_at_call 27; refine (rlong_any s _ (by omega)).mono ?_; rintro e w5 ⟨A5, m5, c5, rfl, ho5, hb5⟩; have hcv5 : ∀ w', Aft w5 w' → (convert 22 9 (.slice A5 m5 c5)).run Try.prog w' = .ok (.string (str (long s))) w' := fun w' h => conv_sl (ho5.after h).sl
  refine hK.out _ _ (hb5) ?_
  clear hK K
  try simp only [Act.put, List.setIfInBounds_toArray, List.set_cons_zero, List.set_cons_succ]
  first | (refine reg_skip 16 (by rfl) (by kernel_rfl) (by kernel_rfl) (by kernel_rfl) (by exact fun _ _ _ h => h) (by rfl) ?_) | (refine reg_take 16 (v := ?_) (by rfl) (by kernel_rfl) (by kernel_rfl) (by kernel_rfl) (by exact fun _ _ _ h => h) (by rfl) ?_ ?_; rotate_left; focus (intro w hSw; go_simp; try with_reducible rfl))
  simp only [Act.put, List.setIfInBounds_toArray, List.set_cons_zero, List.set_cons_succ]
  first | (refine reg_skip 17 (by rfl) (by kernel_rfl) (by kernel_rfl) (by kernel_rfl) (by exact fun _ _ _ h => h) (by rfl) ?_) | (refine reg_take 17 (v := ?_) (by rfl) (by kernel_rfl) (by kernel_rfl) (by kernel_rfl) (by exact fun _ _ _ h => h) (by rfl) ?_ ?_; rotate_left; focus (intro w hSw; go_simp; try with_reducible rfl))
  simp only [Act.put, List.setIfInBounds_toArray, List.set_cons_zero, List.set_cons_succ]
  (refine reg_take 18 (v := ?_) (by rfl) (by kernel_rfl) (by kernel_rfl) (by kernel_rfl) (by exact fun _ _ _ h => h) (by rfl) ?_ ?_; rotate_left; focus (intro w hSw; go_simp; try with_reducible rfl))
  simp only [Act.put, List.setIfInBounds_toArray, List.set_cons_zero, List.set_cons_succ]
  refine wpAnyH_done (by kernel_rfl) ?_ _
  go_wp2_with fail
  have hs5 : Sl S w5 A m c bs := hs.after (seqB hb1 (seqB hb2 (seqB hb3 (seqB ((Below.refl _ w3).drew) (seqB hb4 hb5)))))
  refine (getText_any hs5 (by omega) rg HG.out).mono ?_
  rintro e w6 ⟨A6, m6, c6, rfl, hs6, hb6⟩
  go_wp2_with fail
  refine (rgetText_any (a := 0) (hs5.after hb6) (by omega) (by omega) rg (by simpa using HG.out)).mono ?_
  rintro e w7 ⟨q7, rfl, hq7, rfl⟩
  go_wp2_with fail
  refine (behind_any hs6 (hs5.after hb6) hq7 HNG.out).mono ?_
  rintro e w8 ⟨rfl, hb8⟩
  go_wp2_with fail
  refine (getLong_any (hs5.after (seqB hb6 hb8)) (by omega) rl HL.out).mono ?_
  rintro e w9 ⟨A9, m9, c9, rfl, hs9, hb9⟩
  go_wp2_with fail
  have hs10 : Sl S w9 A m c bs := hs5.after (seqB hb6 (seqB hb8 hb9))
  refine (rgetLong_any (a := 0) hs10 (by omega) (by omega) rl (by simpa using HL.out)).mono ?_
  rintro e w11 ⟨q11, rfl, hq11, hb11⟩
  go_wp2_with fail
  refine (behind_any (hs9.after hb11) (hs10.after hb11) hq11 HNL.out).mono ?_
  rintro e w12 ⟨rfl, hb12⟩
  go_wp2_with fail
  go_ret
  exact ⟨by simp, seqB hb1 (seqB hb2 (seqB hb3 (seqB ((Below.refl _ w3).drew) (seqB hb4 (seqB hb5 (seqB hb6 (seqB hb8 (seqB hb9 (seqB hb11 hb12)))))))))⟩

set_option maxRecDepth 100000 in
theorem primsTexts_any {S : Nat → Prop} {A : Option Addr} {m c : Nat} {bs s : B} {w : World} (hs : Sl S w A m c bs) (hl : s.length ≤ 9223372036854775807) :
    Calls Try.prog 5 #[.string (str s), .slice A m c] w fun e w' => e = .returned (.bool true) ∧ Below w.heap.size w w' := by
  by_cases h : m ≤ 3000 ∧ s.length ≤ 3000
  · exact primsTexts_small hs h.1 h.2
  · have hmc := hs.cap
    have hcm := hs.capMax
    have hx : 3000 < s.length ∨ 3000 < m := by omega
    clear h hs
    have key : (decide (3000 < (s.length : Int)) || decide (3000 < (m : Int))) = true := by simp; omega
    by_cases h2 : 3000 < s.length
    all_goals
      clear hx
      go_enter Try.func5, Try.ntmps5
      go_wp2_with fail
      refine (awake2 _).mono ?_
      rintro e w1 ⟨rfl, hb1⟩
      go_wp2_with fail
      all_goals (first | (go_ret; exact ⟨rfl, hb1⟩) | (exfalso; simp at *; omega))
end Go.Proofs.Sb
