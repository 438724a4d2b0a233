/- The walk over signalboxlaw04.OptionDeep: true at every input, and nothing that was there has turned. Conditions: the table of names reads as it was laid. -/
import Derived.Test.YtpgcadicamnpkaaDoorAwake4
import Derived.Test.YtpgcadicamnpkaaDoorOptl
import Derived.Test.YtpgcadicamnpkaaDoorPlanr
import Derived.Test.YtpgcadicamnpkaaDoorLaws3
import Derived.Test.YtpgcadicamnpkaaDoorCutm
set_option linter.unusedVariables false
set_option linter.unusedSimpArgs false
namespace Go.Proofs.Sb
open Go.RowKit _root_.Sb

theorem and_one : ∀ f : Fin 256, bits .and .u8 ((f : Nat) : Int) 1 = (((f : Nat) % 2 : Nat) : Int) := by decide +kernel
theorem BoxAt.set5 {w : World} {k : Nat} {v0 v1 v2 v3 v4 : Value} (h : BoxAt w k v0 v1 v2 v3 v4) (u0 u1 u2 u3 u4 : Value) : BoxAt (((((w.setCell ⟨k, 0, none⟩ u0).setCell ⟨k, 1, none⟩ u1).setCell ⟨k, 2, none⟩ u2).setCell ⟨k, 3, none⟩ u3).setCell ⟨k, 4, none⟩ u4) k u0 u1 u2 u3 u4 := by
  obtain ⟨h0, h1, h2, h3, h4, h5⟩ := h
  exact ⟨by go_simp, by go_simp, by go_simp, by go_simp, by go_simp, fun o => by simp [h5]⟩
set_option maxHeartbeats 8000000 in
set_option maxRecDepth 100000 in
theorem optionDeep_any {n kd : Nat} {w : World} (hn : n < 256) (hkd : kd < 256) (hpl : Pl w) :
    Calls Tryd.prog 6 #[.int .u8 (n : Int), .int .u8 (kd : Int)] w fun e w' => e = .returned (.bool true) ∧ Below w.heap.size w w' := by
  have HPL := Lib.hid hpl; clear hpl
  obtain ⟨kb, hkb, hand⟩ : ∃ kb : Nat, kb < 2 ∧ bits .and .u8 (kd : Int) 1 = (kb : Int) := ⟨kd % 2, by omega, and_one ⟨kd, hkd⟩⟩
  have HAND := Lib.hid hand; clear hand
  obtain ⟨K, hK⟩ : ∃ K, n % 40 = K := ⟨_, rfl⟩
  have hK40 : K < 40 := by omega
  have hrem : ((n : Int) % 40) = (K : Int) := by omega
  clear hK
  go_enter Tryd.func6, Tryd.ntmps6
  go_wp2_with fail
  refine (awake4 HPL.out).mono ?_
  rintro e w1 ⟨rfl, hb1⟩
  go_wp2_with fail
  have HB1 := Lib.hid hb1
  go_loopw [8, 9] (fun u i wr => ∃ k A5 m5 d5 A6 m6 d6, k ≤ K ∧ i = .int .i64 (k : Nat) ∧ u = .slice A5 m5 d5 ∧ Hid (Own (w1.heap.size + 1) wr A5 m5 d5 (nestB kb k)) ∧
      BoxAt wr w1.heap.size (.int .u16 ((nestO kb k).id : Int)) (.string (str [])) (.string (str [])) (.slice none 0 0) (.slice A6 m6 d6) ∧
      Hid (OptR (fun b => w1.heap.size < b) wr 0 k none 0 0 A6 m6 d6 (nestO kb k)) ∧ Below w1.heap.size w1 wr ∧ w1.heap.size < wr.heap.size) (fun _ i _ => K - (intOf i).toNat)
  case atStart =>
    refine ⟨0, _, _, _, none, 0, 0, by omega, rfl, rfl, ?_, ?_, ?_, (by repeat (first | exact Below.refl _ _ | assumption | refine Below.drew ?_ | refine below_drewN ?_ _ | refine Below.alloc ?_ (by first | (simp; done) | omega | (simp; omega)) _ | refine Below.setCell ?_ (by first | (simp; done) | omega | (simp; omega)) _)), by simp; omega⟩
    · exact own_lit _ _ 2 _ (by rfl) (by rfl) (by unfold maxLen; omega) (by simp) (by simp)
    · exact (box_new w1 _ _ _ _ _ _).after (by repeat (first | exact Below.refl _ _ | assumption | refine Below.drew ?_ | refine below_drewN ?_ _ | refine Below.alloc ?_ (by first | (simp; done) | omega | (simp; omega)) _ | refine Below.setCell ?_ (by first | (simp; done) | omega | (simp; omega)) _))
    · exact ⟨(by show 9 < 65536; omega), Nat.le_refl _, Nat.le_refl _, Arr.nil, Arr.nil⟩
  case round =>
    obtain ⟨k, A5, m5, d5, A6, m6, d6, hk, rfl, rfl, HO5, hbox, HR, hbr, hzr⟩ := hrel
    have HBX := Lib.hid hbox
    have r0 := hbox.c0
    have r1 := hbox.c1
    have r2 := hbox.c2
    have r3 := hbox.c3
    have r4 := hbox.c4
    have f0 := hbox.fr 0
    have f1 := hbox.fr 1
    have f2 := hbox.fr 2
    have f3 := hbox.fr 3
    have f4 := hbox.fr 4
    clear hbox
    by_cases hlt : k < K
    · have hg5 := fun v0 v1 v2 v3 v4 => grow5 wr w1.heap.size v0 v1 v2 v3 v4
      have HG5 := Lib.hid hg5; clear hg5
      have hown : ∀ {W : World} {A : Option Addr} {m c : Nat} {bs : B}, Own (w1.heap.size + 1) W A m c bs → ∀ b, A.map (·.block) = some b → some b ≠ some w1.heap.size := fun h b e e2 => by
        have := (h.block b e).1
        injection e2 with e2
        omega
      have hnot : ∀ b, w1.heap.size < b → some b ≠ some w1.heap.size := fun b h e => by injection e with e; omega
      obtain rfl | rfl : kb = 0 ∨ kb = 1 := by omega
      · have hand : bits .and .u8 (kd : Int) 1 = 0 := HAND.out
        have hbl := nestB_len 0 k
        have hol := HO5.out.len
        have HOW := Lib.hid (HO5.out.grown (HG5.out (.int .u16 32) (.string ⟨#[]⟩) (.string ⟨#[]⟩) (.slice none 0 0) (.slice (some ⟨wr.heap.size, 0, none⟩) 1 1)) (hown HO5.out)).sl
        go_wp2_with (at_builtin; refine wpList_appw rfl _ _ rfl (w1.heap.size + 1) _ _ _ [0, 32] rfl (own_lit _ _ 2 [0, 32] (by rfl) (by rfl) (by unfold maxLen; omega) (by simp; omega) (by simp)) (fun b => w1.heap.size + 1 ≤ b) _ _ _ (nestB 0 k) rfl (HOW.out.after (((Below.refl _ _).alloc (by simp) _).alloc (by simp) _)) (by simp; omega) (by simp; omega) ?_; intro A7 m7 d7 w4 ho4 hg4 _)
        obtain ⟨W5, hW5⟩ : ∃ W5, W5 = ((((wr.setCell ⟨w1.heap.size, 0, none⟩ (.int .u16 32)).setCell ⟨w1.heap.size, 1, none⟩ (.string ⟨#[]⟩)).setCell ⟨w1.heap.size, 2, none⟩ (.string ⟨#[]⟩)).setCell ⟨w1.heap.size, 3, none⟩ (.slice none 0 0)).setCell ⟨w1.heap.size, 4, none⟩ (.slice (some ⟨wr.heap.size, 0, none⟩) 1 1) := ⟨_, rfl⟩
        rw [← hW5] at hg4
        have g5 := HG5.out (.int .u16 32) (.string ⟨#[]⟩) (.string ⟨#[]⟩) (.slice none 0 0) (.slice (some ⟨wr.heap.size, 0, none⟩) 1 1)
        rw [← hW5] at g5
        have b5 := HBX.out.set5 (.int .u16 32) (.string ⟨#[]⟩) (.string ⟨#[]⟩) (.slice none 0 0) (.slice (some ⟨wr.heap.size, 0, none⟩) 1 1)
        rw [← hW5] at b5
        have z5 : W5.heap.size = wr.heap.size := by rw [hW5]; simp
        clear hW5
        have o5 := o1_S (id := 32) (e := 26) (g := wr.heap.size) (by omega) z5.symm (show w1.heap.size < W5.heap.size by omega) (HR.out.grown g5 hnot)
        rw [nest_space, nest_name] at o5
        have k6 := below_grow (Below.refl (W5.alloc (.cells #[.int .u16 ((nestO 0 k).id : Int), .string (str []), .string (str []), .slice none 0 0, .slice A6 m6 d6] 26)).heap.size _ |>.alloc (by simp) _) hg4 (by simp) (fun b e => by simp at e; simp; omega)
        have k5 : Below W5.heap.size W5 w4 := Below.trans (by repeat (first | exact Below.refl _ _ | assumption | refine Below.drew ?_ | refine below_drewN ?_ _ | refine Below.alloc ?_ (by first | (simp; done) | omega | (simp; omega)) _ | refine Below.setCell ?_ (by first | (simp; done) | omega | (simp; omega)) _)) (k6.mono (by simp))
        have k1 : Below w1.heap.size w1 w4 := Below.trans (below_grow hbr g5 (by omega) (fun b e => by injection e with e; omega)) (k5.mono (by omega))
        have z4 := k5.size
        refine ⟨⟨k + 1, by omega, by go_num, A7, m7, d7, ⟨rfl, rfl, rfl⟩, ho4, some ⟨wr.heap.size, 0, none⟩, 1, 1, b5.after k5, o5.after k6, k1, by omega⟩, by simp [intOf]; omega⟩
      · have hand : bits .and .u8 (kd : Int) 1 = 1 := HAND.out
        have hbl := nestB_len 1 k
        have hol := HO5.out.len
        have HOW := Lib.hid (HO5.out.grown (HG5.out (.int .u16 49) (.string ⟨#[]⟩) (.string ⟨#[]⟩) (.slice none 0 0) (.slice (some ⟨wr.heap.size, 0, none⟩) 1 1)) (hown HO5.out)).sl
        go_wp2_with (at_builtin; refine wpList_appw rfl _ _ rfl (w1.heap.size + 1) _ _ _ [0, 49, 0, 1] rfl (own_lit _ _ 4 [0, 49, 0, 1] (by rfl) (by rfl) (by unfold maxLen; omega) (by simp; omega) (by simp)) (fun b => w1.heap.size + 1 ≤ b) _ _ _ (nestB 1 k) rfl (HOW.out.after (((Below.refl _ _).alloc (by simp) _).alloc (by simp) _)) (by simp; omega) (by simp; omega) ?_; intro A7 m7 d7 w4 ho4 hg4 _)
        obtain ⟨W5, hW5⟩ : ∃ W5, W5 = ((((wr.setCell ⟨w1.heap.size, 0, none⟩ (.int .u16 49)).setCell ⟨w1.heap.size, 1, none⟩ (.string ⟨#[]⟩)).setCell ⟨w1.heap.size, 2, none⟩ (.string ⟨#[]⟩)).setCell ⟨w1.heap.size, 3, none⟩ (.slice none 0 0)).setCell ⟨w1.heap.size, 4, none⟩ (.slice (some ⟨wr.heap.size, 0, none⟩) 1 1) := ⟨_, rfl⟩
        rw [← hW5] at hg4
        have g5 := HG5.out (.int .u16 49) (.string ⟨#[]⟩) (.string ⟨#[]⟩) (.slice none 0 0) (.slice (some ⟨wr.heap.size, 0, none⟩) 1 1)
        rw [← hW5] at g5
        have b5 := HBX.out.set5 (.int .u16 49) (.string ⟨#[]⟩) (.string ⟨#[]⟩) (.slice none 0 0) (.slice (some ⟨wr.heap.size, 0, none⟩) 1 1)
        rw [← hW5] at b5
        have z5 : W5.heap.size = wr.heap.size := by rw [hW5]; simp
        clear hW5
        have o5 := o1_S (id := 49) (e := 26) (g := wr.heap.size) (by omega) z5.symm (show w1.heap.size < W5.heap.size by omega) (HR.out.grown g5 hnot)
        rw [nest_space, nest_name] at o5
        have k6 := below_grow (Below.refl (W5.alloc (.cells #[.int .u16 ((nestO 1 k).id : Int), .string (str []), .string (str []), .slice none 0 0, .slice A6 m6 d6] 26)).heap.size _ |>.alloc (by simp) _) hg4 (by simp) (fun b e => by simp at e; simp; omega)
        have k5 : Below W5.heap.size W5 w4 := Below.trans (by repeat (first | exact Below.refl _ _ | assumption | refine Below.drew ?_ | refine below_drewN ?_ _ | refine Below.alloc ?_ (by first | (simp; done) | omega | (simp; omega)) _ | refine Below.setCell ?_ (by first | (simp; done) | omega | (simp; omega)) _)) (k6.mono (by simp))
        have k1 : Below w1.heap.size w1 w4 := Below.trans (below_grow hbr g5 (by omega) (fun b e => by injection e with e; omega)) (k5.mono (by omega))
        have z4 := k5.size
        refine ⟨⟨k + 1, by omega, by go_num, A7, m7, d7, ⟨rfl, rfl, rfl⟩, ho4, some ⟨wr.heap.size, 0, none⟩, 1, 1, b5.after k5, o5.after k6, k1, by omega⟩, by simp [intOf]; omega⟩
    · obtain rfl : K = k := by omega
      clear f0 f1 f2 f3 f4 hlt
      have hb0r := seqB hb1 hbr
      have hsp := nest_space kb K
      have hnm := nest_name kb K
      obtain ⟨rp, hrp⟩ : ∃ r, putW (K + 1) (nestO kb K) = r := ⟨_, rfl⟩
      have HRP := Lib.hid hrp
      obtain ⟨rg, hrg⟩ : ∃ r, getO 20 (nestB kb K) = r := ⟨_, rfl⟩
      have HRG := Lib.hid hrg
      obtain ⟨rt, hrt⟩ : ∃ r, textW (K + 1) (nestO kb K) = r := ⟨_, rfl⟩
      have HRT := Lib.hid hrt
      rw [nest_put'] at hrp
      rw [nest_get] at hrg
      rw [nest_text] at hrt
      have hnd := nest_nD kb K
      have hlt := tell_lim HR.out (by omega) (by omega)
      have hbl := nestB_len kb K
      have hid16 := nest_id kb K
      have hq : K < 20 → (normD (K + 1) (nestO kb K)).id = (nestO kb K).id := fun _ => (normD_id (nest_put kb K)).1
      generalize hnst : nestO kb K = o at *
      obtain ⟨id, sp, nm, ns, ks⟩ := o
      simp only at hsp hnm
      subst hsp hnm
      have hol : m5 ≤ 200 := by have := HO5.out.len; omega
      have hnd : nD (K + 1) (⟨id, [], [], ns, ks⟩ : Opt) ≤ 40 := by omega
      have HP2 := Lib.hid hrp
      have HG2 := Lib.hid hrg
      have HT2 := Lib.hid hrt
      have HQ2 := Lib.hid hq
      clear hrp hrg hrt hq hnst hbl hid16
      go_wp2_with fail
      refine (oPut_any (o := ⟨id, [], [], ns, ks⟩) (HR.out) (by decide) (HPL.out.after hb0r) (by omega) rp HRP.out).mono ?_
      rintro e w2 ⟨A8, m8, d8, rfl, ho8, hb2⟩
      replace r0 := kcell hb2 r0
      replace r1 := kcell hb2 r1
      replace r2 := kcell hb2 r2
      replace r3 := kcell hb2 r3
      replace r4 := kcell hb2 r4
      have hb02 := seqB hb0r hb2
      have hz2 : w1.heap.size < w2.heap.size := by have := World.block_lt_of_cell? w2 _ r0; exact this
      go_wp2_with fail
      refine (oGet_any ((HO5.out.after hb2).sl) (by omega) (HPL.out.after hb02) rg HRG.out).mono ?_
      rintro e w3 ⟨A9, m9, d9, A10, m10, d10, A11, m11, d11, rfl, ho9, hs11, hb3⟩
      replace r0 := kcell hb3 r0
      replace r1 := kcell hb3 r1
      replace r2 := kcell hb3 r2
      replace r3 := kcell hb3 r3
      replace r4 := kcell hb3 r4
      have hb03 := seqB hb02 hb3
      have hz3 : w1.heap.size < w3.heap.size := by have := World.block_lt_of_cell? w3 _ r0; exact this
      go_wp2_with fail
      refine (oText_any (o := ⟨id, [], [], ns, ks⟩) (HR.out.after (seqB (seqB hb2 hb3) (by repeat (first | exact Below.refl _ _ | assumption | refine Below.drew ?_ | refine below_drewN ?_ _ | refine Below.alloc ?_ (by first | (simp; done) | omega | (simp; omega)) _ | refine Below.setCell ?_ (by first | (simp; done) | omega | (simp; omega)) _)))) ((HPL.out.after hb03).after (by repeat (first | exact Below.refl _ _ | assumption | refine Below.drew ?_ | refine below_drewN ?_ _ | refine Below.alloc ?_ (by first | (simp; done) | omega | (simp; omega)) _ | refine Below.setCell ?_ (by first | (simp; done) | omega | (simp; omega)) _))) (by omega) (by omega) rt HRT.out).mono ?_
      rintro e w4 ⟨rfl, hb4⟩
      have q0 : w4.cell? ⟨w3.heap.size, 0, none⟩ = some (.int .u16 ((rval Opt.none rg).id : Int)) := kcell hb4 (by go_simp)
      replace r0 := kcell hb4 (show (w3.alloc _).cell? ⟨w1.heap.size, 0, none⟩ = some (.int .u16 (id : Int)) by go_simp)
      replace r1 := kcell hb4 (show (w3.alloc _).cell? ⟨w1.heap.size, 1, none⟩ = some (.string (str [])) by go_simp)
      replace r2 := kcell hb4 (show (w3.alloc _).cell? ⟨w1.heap.size, 2, none⟩ = some (.string (str [])) by go_simp)
      replace r3 := kcell hb4 (show (w3.alloc _).cell? ⟨w1.heap.size, 3, none⟩ = some (.slice none 0 0) by go_simp)
      replace r4 := kcell hb4 (show (w3.alloc _).cell? ⟨w1.heap.size, 4, none⟩ = some (.slice A6 m6 d6) by go_simp)
      have hb4' : Below w3.heap.size w3 w4 := Below.trans (by repeat (first | exact Below.refl _ _ | assumption | refine Below.drew ?_ | refine below_drewN ?_ _ | refine Below.alloc ?_ (by first | (simp; done) | omega | (simp; omega)) _ | refine Below.setCell ?_ (by first | (simp; done) | omega | (simp; omega)) _)) (hb4.mono (by simp))
      have hb04 := seqB hb03 hb4'
      have hz4 : w1.heap.size < w4.heap.size := by have := World.block_lt_of_cell? w4 _ r0; exact this
      have hlen8 := ho8.len
      have hlen11 := hs11.len
      have hc8 := conv_sl (ho8.after (seqB hb3 hb4')).sl
      have hc5 := conv_sl (HO5.out.after (seqB hb2 (seqB hb3 hb4'))).sl
      clear ho8 ho9 hs11 r1 r2 r3 r4
      have hrp := HP2.out
      have hrg := HG2.out
      have hrt := HT2.out
      by_cases h20 : K < 20
      · rw [if_pos h20] at hrp hrg hrt
        subst hrp hrg hrt
        have hqi := HQ2.out h20
        simp only [werr_ok, wval_ok, rerr_ok, rval_ok, rrest_ok, List.length_nil] at q0 hlen11 hc8 ⊢
        rw [hqi] at q0
        subst hlen11
        clear hlen8 hol hqi hnd HP2 HG2 HT2 HQ2
        go_wp2_with fail
        go_ret
        exact ⟨by simp, hb04⟩
      · rw [if_neg h20] at hrp hrg hrt
        subst hrp hrg hrt
        simp only [werr_error, wval_error, rerr_error, rval_error, rrest_error, List.length_nil] at hlen8 ⊢
        subst hlen8
        clear hol hnd hlen11 hc8 hc5 q0 r0
        go_wp2_with fail
        go_ret
        exact ⟨by simp, hb04⟩
end Go.Proofs.Sb
