/- A walk over signalboxref07.Put. Conditions: up to 50 warnings and parts, each value up to 2^20 bytes. (written by gen_rpput.py) -/
import Derived.Test.YtpgcadicamnpkaaPree
import Derived.Test.YtpgcadicamnpkaaOwng
import Derived.Test.YtpgcadicamnpkaaLaws3
set_option linter.unusedVariables false
set_option linter.unusedSimpArgs false
namespace Go.Proofs.Sb
open Go.RowKit _root_.Sb

theorem bcx {N : Nat} {w w' : World} (h : Below N w w') {b o : Nat} {v : Value} (hb : b < N) (hc : w.cell? ⟨b, o, none⟩ = some v) : w'.cell? ⟨b, o, none⟩ = some v := (World.cell?_of_block (h.block b hb)).trans hc
theorem Sl.keepB {S : Nat → Prop} {N : Nat} {w w' : World} {A : Option Addr} {n c : Nat} {bs : B} (h : Sl (fun b => S b ∧ b < N) w A n c bs) (hb : Below N w w') : Sl S w' A n c bs := ⟨h.1, h.2.1, h.2.2.1, (h.2.2.2.keep hb.size (fun b hs _ => hb.block b hs.2)).mono fun _ h _ => h.1⟩
set_option maxHeartbeats 8000000 in
set_option maxRecDepth 100000 in
theorem rpreput_any {S1 S2 T1 T2 : Nat → Prop} {A1 A2 : Option Addr} {n1 c1 n2 c2 : Nat} {p : Pre} {w : World} (h1 : Arr 5 (itemP T1 w) S1 w A1 n1 c1 (p.warnings.map .ofText)) (h2 : Arr 5 (itemP T2 w) S2 w A2 n2 c2 (p.payload.map .ofEntry))
    (hv : ∀ x ∈ p.payload, x.2.bytes.length ≤ 1048576) (hn1 : n1 ≤ 50) (hn2 : n2 ≤ 50) (r : Except Int (B × Nat)) (hr : preW p = r) :
    Calls Try.prog 9 #[.agg #[.string (str p.tracing), .slice A1 n1 c1, .slice A2 n2 c2]] w fun e w' => ∃ A n c, e = .returned (.tuple #[.slice A n c, .int .u8 (pflag r : Int), .int .i64 (perr r)]) ∧ Sl (fun b => w.heap.size ≤ b) w' A n c (pval r) ∧ Below w.heap.size w w' := by
  obtain ⟨tr, wa, pl⟩ := p
  simp only at h1 h2 hv
  have hl1' := h1.len
  rw [List.length_map] at hl1'
  have hl1 := Lib.hid hl1'
  have hl2' := h2.len
  rw [List.length_map] at hl2'
  have hl2 := Lib.hid hl2'
  clear hl1' hl2'
  have hc1 := h1.cap
  have hm1 := h1.capMax
  have hc2 := h2.cap
  have hm2 := h2.capMax
  have H1 := Lib.hid h1; clear h1
  have H2 := Lib.hid h2; clear h2
  have HV := Lib.hid hv; clear hv
  unfold preW at hr
  simp only at hr
  by_cases hbad : tr.length ≠ 0 ∧ tr.length ≠ 16
  · rw [if_pos hbad] at hr
    subst hr
    have hb1 : ((tr.length : Int) != 0) = true := by rw [bne_iff_ne]; omega
    have hb2 : ((tr.length : Int) != 16) = true := by rw [bne_iff_ne]; omega
    clear hbad
    go_enter Try.func9, Try.ntmps9
    go_wp2_with fail
    go_ret3
    exact ⟨_, _, _, rfl, Sl.nil, (by repeat (first | exact Below.refl _ _ | assumption | refine Below.drew ?_ | refine below_drewN ?_ _ | refine Below.alloc ?_ (by first | (simp; done) | omega | (simp; omega)) _ | refine Below.setCell ?_ (by first | (simp; done) | omega | (simp; omega)) _))⟩
  · rw [if_neg hbad] at hr
    have hok : tr.length = 0 ∨ tr.length = 16 := by omega
    clear hbad
    obtain ⟨rw, hrw⟩ : ∃ r, texts wa = r := ⟨_, rfl⟩
    rw [hrw] at hr
    have HW := Lib.hid hrw; clear hrw
    obtain ⟨rl, hrl⟩ : ∃ r, putL entryW pl = r := ⟨_, rfl⟩
    rw [hrl] at hr
    have HL := Lib.hid hrl; clear hrl
    have HR := Lib.hid hr; clear hr
    have hb4 : ((tr.length : Int) != 0 && (tr.length : Int) != 16) = false := by rcases hok with h | h <;> rw [h] <;> rfl
    have hgo : ∃ g0 g16 : Bool, ((tr.length : Int) != 0) = g0 ∧ ((tr.length : Int) != 16) = g16 ∧ (g0 && g16) = false ∧ ((g0 = true → 0 < tr.length) ∧ (g0 = false → ¬ 0 < tr.length)) ∧ (if 0 < tr.length then 2 else 0) = (if g0 then 2 else 0) := by
      refine ⟨_, _, rfl, rfl, hb4, ?_, ?_⟩
      · rcases hok with h | h <;> rw [h] <;> exact ⟨fun h => by first | omega | (cases h), fun h => by first | omega | (cases h)⟩
      · rcases hok with h | h <;> rw [h] <;> rfl
    clear hb4
    have hltr : tr.length ≤ 16 := by omega
    have HOK := Lib.hid hok; clear hok
    obtain ⟨g0, g16, hg1, hg2, hg3, hg4, hg5⟩ := hgo
    have HT5 := Lib.hid hg5; clear hg5
    cases g0
    all_goals
      simp only [Bool.false_and, Bool.true_and] at hg3
      try subst hg3
      first | have hpos := hg4.1 rfl | have hpos := hg4.2 rfl
      clear hg4
      go_enter Try.func9, Try.ntmps9
      go_wp2_with fail
      refine (rput0_any (M := 65537) (items_move H1.out (by repeat (first | exact Below.refl _ _ | assumption | refine Below.drew ?_ | refine below_drewN ?_ _ | refine Below.alloc ?_ (by first | (simp; done) | omega | (simp; omega)) _ | refine Below.setCell ?_ (by first | (simp; done) | omega | (simp; omega)) _))) (fun x hx b hb => by obtain ⟨y, hy, rfl⟩ := List.mem_map.1 hx; rw [show itemW 0 (Thing.ofText y) = text y by simp [itemW, itemV, Thing.ofText, bothW_nil]] at hb; have := text_len hb; omega) (by omega) (by intro; rw [List.length_map]; have := hl1.out; omega) rw (by rw [put_texts]; exact HW.out)).mono ?_
      rintro e w1 ⟨B1, m1, d1, rfl, ho1, hb1⟩
      have p0 : w1.cell? ⟨w.heap.size, 0, none⟩ = some (.string (str tr)) := kcell hb1 (by go_simp)
      have p1 : w1.cell? ⟨w.heap.size, 1, none⟩ = some (.slice A1 n1 c1) := kcell hb1 (by go_simp)
      have p2 : w1.cell? ⟨w.heap.size, 2, none⟩ = some (.slice A2 n2 c2) := kcell hb1 (by go_simp)
      replace hb1 : Below w.heap.size w w1 := Below.trans (by repeat (first | exact Below.refl _ _ | assumption | refine Below.drew ?_ | refine below_drewN ?_ _ | refine Below.alloc ?_ (by first | (simp; done) | omega | (simp; omega)) _ | refine Below.setCell ?_ (by first | (simp; done) | omega | (simp; omega)) _)) (hb1.mono (by simp))
      have hz1 := hb1.size
      cases rw with
      | error ew =>
        have hne : ew ≠ 0 := texts_ne HW.out
        obtain rfl := HR.out
        go_wp2_with fail
        go_ret3
        exact ⟨_, _, _, rfl, Sl.nil, hb1⟩
      | ok wb =>
        go_wp2_with fail
        refine (rput3_any (M := 1114117) (items_move H2.out hb1) (fun x hx => by obtain ⟨y, hy, rfl⟩ := List.mem_map.1 hx; have := HV.out y hy; show y.2.bytes.length ≤ _; omega) (fun x hx b hb => by obtain ⟨y, hy, rfl⟩ := List.mem_map.1 hx; have h9 : entryW y = .ok b := (by rw [← hb]; simp [itemW, itemV, Thing.ofEntry, entryW]); have := entryW_len h9; have := HV.out y hy; omega) (by omega) (by intro; rw [List.length_map]; have := hl2.out; omega) rl (by rw [put_entries]; exact HL.out)).mono ?_
        rintro e w2 ⟨B2, m2, d2, rfl, ho2, hb2⟩
        replace p0 := kcell hb2 p0
        replace p1 := kcell hb2 p1
        replace p2 := kcell hb2 p2
        have hlt2 := World.block_lt_of_cell? w2 ⟨w.heap.size, 0, none⟩ p0
        simp only at hlt2
        have hbel2 : Below w.heap.size w w2 := Below.trans hb1 (hb2.mono hz1)
        cases rl with
        | error el =>
          have hne : el ≠ 0 := putL_ne (fun _ _ h => entryW_ne h) HL.out
          obtain rfl := HR.out
          go_wp2_with fail
          go_ret3
          exact ⟨_, _, _, rfl, Sl.nil, hbel2⟩
        | ok lb =>
          have lw : wb.length ≤ 3276852 := by have h1 := (texts_len HW.out).1; have h2 := hl1.out; have : wa.length * 65537 ≤ 50 * 65537 := Nat.mul_le_mul_right _ (by omega); omega
          have ll : lb.length ≤ 55705852 := by
            have h1 := (putL_len (M := 1114117) (fun x hx b hb => by have := entryW_len hb; have := HV.out x hx; omega) HL.out).2
            have h2 := hl2.out
            have : pl.length * 1114117 ≤ 50 * 1114117 := Nat.mul_le_mul_right _ (by omega)
            omega
          have lw2 : 2 ≤ wb.length := by obtain ⟨_, yw, _, ew⟩ := putL_parts HW.out; rw [ew, List.length_append, enc_length]; omega
          have ll2 : 2 ≤ lb.length := by obtain ⟨_, yw, _, ew⟩ := putL_parts HL.out; rw [ew, List.length_append, enc_length]; omega
          have s1 := Lib.hid (ho1.after hb2).sl.lt
          have s2 := Lib.hid ho2.sl.lt
          simp only [werr_ok, wval_ok] at s1 s2 ⊢
          clear ho1 ho2
          obtain ⟨c3, w3, hcv3, hown3, hbw3⟩ := conv_own w2 tr (by omega)
          have hsz3 := hbw3.size
          have HOWN3 := Lib.hid hown3; clear hown3
          have HCV := Lib.hid hcv3
          have p30 := bcx hbw3 hlt2 p0
          have p31 := bcx hbw3 hlt2 p1
          have p32 := bcx hbw3 hlt2 p2
          have HR' : Hid (r = .ok (tr ++ (if 0 < wa.length then wb else []) ++ (if 0 < pl.length then lb else []), (if 0 < tr.length then 2 else 0) + (if 0 < wa.length then 8 else 0) + (if 0 < pl.length then 4 else 0))) := HR.out.symm
          have HR2 := HR'.out
          rw [HT5.out, ← hl1.out, ← hl2.out] at HR2
          clear HR
          by_cases hp1 : 0 < n1
          · by_cases hp2 : 0 < n2
            · rw [if_pos hp1, if_pos hp2, if_pos hp1, if_pos hp2] at HR2
              subst HR2
              go_wp2_with (first | (at_builtin; refine wpList_appU rfl _ _ rfl w2.heap.size _ _ _ tr rfl (.inr HOWN3.out) _ _ _ _ wb rfl (s1.out.keepB hbw3) (by have := s1.out.len; omega) (by omega) hsz3 ?_; intro A5 m5 d5 w5 hown5 hbw5; have HO5 := Lib.hid hown5; clear hown5; have q0 := bcx hbw5 hlt2 p30; have q1 := bcx hbw5 hlt2 p31; have q2 := bcx hbw5 hlt2 p32; have hz5 := hbw5.size; have S5 := Lib.hid (s2.out.keepB (hbw3.trans hbw5))) | (at_builtin; refine wpList_appU rfl _ _ rfl w2.heap.size _ _ _ (tr ++ wb) rfl HO5.out _ _ _ _ lb rfl S5.out (by have := s2.out.len; omega) (by rw [List.length_append]; omega) (by omega) ?_; intro A6 m6 d6 w6 hown6 hbw6))
              go_ret3
              exact ⟨A6, m6, d6, by first | rfl | simp [pflag, perr], by have h9 := hown6.sl.mono (S' := fun b => w.heap.size ≤ b) fun b hb _ => Nat.le_trans hbel2.size hb; simpa [pval] using h9, hbel2.trans (((hbw3.trans hbw5).trans hbw6).mono hbel2.size)⟩
            · rw [if_pos hp1, if_neg hp2, if_pos hp1, if_neg hp2] at HR2
              obtain rfl : n2 = 0 := by omega
              subst HR2
              go_wp2_with (first | (at_builtin; refine wpList_appU rfl _ _ rfl w2.heap.size _ _ _ tr rfl (.inr HOWN3.out) _ _ _ _ wb rfl (s1.out.keepB hbw3) (by have := s1.out.len; omega) (by omega) hsz3 ?_; intro A5 m5 d5 w5 hown5 hbw5; have q0 := bcx hbw5 hlt2 p30; have q1 := bcx hbw5 hlt2 p31; have q2 := bcx hbw5 hlt2 p32))
              go_ret3
              exact ⟨A5, m5, d5, by first | rfl | simp [pflag, perr], by simpa [pval] using hown5.sl.mono fun b hb _ => Nat.le_trans hbel2.size hb, hbel2.trans ((hbw3.trans hbw5).mono hbel2.size)⟩
          · obtain rfl : n1 = 0 := by omega
            by_cases hp2 : 0 < n2
            · rw [if_neg hp1, if_pos hp2, if_neg hp1, if_pos hp2] at HR2
              subst HR2
              go_wp2_with (first | (at_builtin; refine wpList_appU rfl _ _ rfl w2.heap.size _ _ _ tr rfl (.inr HOWN3.out) _ _ _ _ lb rfl (s2.out.keepB hbw3) (by have := s2.out.len; omega) (by omega) hsz3 ?_; intro A5 m5 d5 w5 hown5 hbw5; have q0 := bcx hbw5 hlt2 p30; have q1 := bcx hbw5 hlt2 p31; have q2 := bcx hbw5 hlt2 p32))
              go_ret3
              exact ⟨A5, m5, d5, by first | rfl | simp [pflag, perr], by simpa [pval] using hown5.sl.mono fun b hb _ => Nat.le_trans hbel2.size hb, hbel2.trans ((hbw3.trans hbw5).mono hbel2.size)⟩
            · rw [if_neg hp1, if_neg hp2, if_neg hp1, if_neg hp2] at HR2
              obtain rfl : n2 = 0 := by omega
              subst HR2
              go_wp2_with fail
              go_ret3
              exact ⟨_, _, _, by first | rfl | (simp [pflag, perr]; done) | (simp [pflag, perr]; exact ⟨rfl, rfl, rfl⟩), by simpa [pval] using HOWN3.out.sl.mono fun b hb _ => Nat.le_trans hbel2.size hb, hbel2.trans (hbw3.mono hbel2.size)⟩
end Go.Proofs.Sb
