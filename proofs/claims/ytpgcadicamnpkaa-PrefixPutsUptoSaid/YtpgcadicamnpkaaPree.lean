/- Walks over prefix.Put and its closure. Conditions: up to 50 warnings and parts, each value up to 2^20 bytes. -/
import Derived.Test.YtpgcadicamnpkaaPred
import Derived.Test.YtpgcadicamnpkaaMapsb
import Derived.Laws.EntriesVeiled
set_option linter.unusedVariables false
set_option linter.unusedSimpArgs false
namespace Sb
/-- what stands ahead of a body, put: its bytes and its flags -/
def preW (p : Pre) : Except Int (B × Nat) :=
  if p.tracing.length ≠ 0 ∧ p.tracing.length ≠ 16 then .error 1 else match texts p.warnings with
  | .error e => .error e
  | .ok w => match putL entryW p.payload with
    | .error e => .error e
    | .ok l => .ok (p.tracing ++ (if 0 < p.warnings.length then w else []) ++ (if 0 < p.payload.length then l else []),
        (if 0 < p.tracing.length then 2 else 0) + (if 0 < p.warnings.length then 8 else 0) + (if 0 < p.payload.length then 4 else 0))
def perr : Except Int (B × Nat) → Int | .ok _ => 0 | .error e => e
def pval : Except Int (B × Nat) → B | .ok x => x.1 | .error _ => []
def pflag : Except Int (B × Nat) → Nat | .ok x => x.2 | .error _ => 0
end Sb
namespace Go.Proofs.Sb
open Go.RowKit _root_.Sb

theorem own_eq {base : Nat} {w : World} {A : Option Addr} {n c : Nat} {bs cs : B} (h : Own base w A n c bs) (e : bs = cs) : Own base w A n c cs := e ▸ h
/-- the bytes and the flags that are made lie in two cells -/
def OutAt (Z ob fb : Nat) (w : World) (bs : B) (f : Nat) : Prop := ∃ A n c, w.cell? ⟨ob, 0, none⟩ = some (.slice A n c) ∧ w.cell? ⟨fb, 0, none⟩ = some (.int .u8 (f : Int)) ∧ w.frozen? ⟨ob, 0, none⟩ = false ∧ w.frozen? ⟨fb, 0, none⟩ = false ∧
  Own Z w A n c bs ∧ A.map (·.block) ≠ some ob ∧ A.map (·.block) ≠ some fb
set_option maxHeartbeats 2000000 in
set_option maxRecDepth 100000 in
theorem put1_any {S : Nat → Prop} {A : Option Addr} {m c Z ob fb f fl : Nat} {yes : Bool} {bs cs : B} {w : World} (hO : OutAt Z ob fb w bs f) (hs : Sl S w A m c cs) (hsz : bs.length + cs.length ≤ 140737488355328) (ho : Z ≤ ob) (hf : Z ≤ fb) (hne : ob ≠ fb) (hZ : Z ≤ w.heap.size) (hor : bits .or .u8 (f : Int) (fl : Int) = ((f + fl : Nat) : Int)) :
    Calls Try.prog 17 #[.bool yes, .int .u8 (fl : Int), .slice A m c, .pointer (some ⟨ob, 0, none⟩), .pointer (some ⟨fb, 0, none⟩)] w fun e w' => (∃ v, e = .returned v) ∧ OutAt Z ob fb w' (if yes then bs ++ cs else bs) (if yes then f + fl else f) ∧ Below Z w w' := by
  cases yes with
  | false =>
    go_enter Try.func17, Try.ntmps17
    go_wp2_with fail
    refine bodyPost_end (results_none rfl _ _ _) rfl ?_
    exact ⟨⟨_, rfl⟩, hO, Below.refl _ _⟩
  | true =>
    obtain ⟨A1, n1, c1, p0, p1, f0, f1, hown, a1, a2⟩ := hO
    have hlo := World.block_lt_of_cell? w ⟨ob, 0, none⟩ p0
    have hlf := World.block_lt_of_cell? w ⟨fb, 0, none⟩ p1
    simp only at hlo hlf
    have hne' : ¬ ob = fb := hne
    have hne2 : ¬ fb = ob := fun e => hne e.symm
    have HS := Lib.hid hs; clear hs
    have HA1 := Lib.hid a1; clear a1
    have HA2 := Lib.hid a2; clear a2
    go_enter Try.func17, Try.ntmps17
    go_wp2_with (first | (at_builtin; refine wpList_appw rfl _ _ rfl Z _ _ _ bs rfl hown _ _ _ _ cs rfl HS.out hsz hZ ?_; intro A3 n3 c3 w3 hown3 hg3 hwh3; have q0 := gcellp hg3 (fun e => HA1.out e.symm) p0; have q1 := gcellp hg3 (fun e => HA2.out e.symm) p1; have g0 := gfroz hg3 (fun e => HA1.out e.symm) hlo f0; have g1 := gfroz hg3 (fun e => HA2.out e.symm) hlf f1))
    have hb3 : Below Z w w3 := below_grow (Below.refl _ _) hg3 hZ fun b e => (hown.block b e).1
    have n1 : A3.map (·.block) ≠ some ob := fun e => by rcases hwh3 ob e with h | h; exact HA1.out h; omega
    have n2 : A3.map (·.block) ≠ some fb := fun e => by rcases hwh3 fb e with h | h; exact HA2.out h; omega
    refine bodyPost_end (results_none rfl _ _ _) rfl ?_
    refine ⟨⟨_, rfl⟩, ⟨A3, n3, c3, by go_simp, by go_simp, by go_simp, by go_simp, (hown3.grown (grow_setCell _ _ _ _) fun b e e2 => n1 (by rw [e]; exact e2)).grown (grow_setCell _ _ _ _) fun b e e2 => n2 (by rw [e]; exact e2), n1, n2⟩, ?_⟩
    exact (hb3.setCell ho _).setCell hf _

set_option maxHeartbeats 8000000 in
set_option maxRecDepth 100000 in
theorem preput_any {S0 S1 S2 T2 : Nat → Prop} {A0 A1 A2 : Option Addr} {n0 c0 n1 c1 n2 c2 : Nat} {p : Pre} {w : World} (h0 : Sl S0 w A0 n0 c0 p.tracing) (h1 : Arr 1 strP S1 w A1 n1 c1 p.warnings) (h2 : Arr 3 (entryP T2 w) S2 w A2 n2 c2 p.payload)
    (hv : ∀ x ∈ p.payload, x.2.bytes.length ≤ 1048576) (hn1 : n1 ≤ 50) (hn2 : n2 ≤ 50) (r : Except Int (B × Nat)) (hr : preW p = r) :
    Calls Try.prog 8 #[.agg #[.slice A0 n0 c0, .slice A1 n1 c1, .slice A2 n2 c2]] w fun e w' => ∃ A n c, e = .returned (.tuple #[.slice A n c, .int .u8 (pflag r : Int), .int .i64 (perr r)]) ∧ Own w.heap.size w' A n c (pval r) ∧ Below w.heap.size w w' := by
  obtain ⟨tr, wa, pl⟩ := p
  simp only at h0 h1 h2 hv
  have hl0 := Lib.hid h0.len
  have hl1 := Lib.hid h1.len
  have hl2 := Lib.hid h2.len
  have hc0 := h0.cap
  have hm0 := h0.capMax
  have hc1 := h1.cap
  have hm1 := h1.capMax
  have hc2 := h2.cap
  have hm2 := h2.capMax
  have H0 := Lib.hid h0; clear h0
  have H1 := Lib.hid h1; clear h1
  have H2 := Lib.hid h2; clear h2
  have HV := Lib.hid hv; clear hv
  unfold preW at hr
  simp only at hr
  by_cases hbad : tr.length ≠ 0 ∧ tr.length ≠ 16
  · rw [if_pos hbad] at hr
    subst hr
    have hb1 : ((n0 : Int) != 0) = true := by rw [bne_iff_ne]; have := hl0.out; omega
    have hb2 : ((n0 : Int) != 16) = true := by rw [bne_iff_ne]; have := hl0.out; omega
    clear hbad
    go_enter Try.func8, Try.ntmps8
    go_wp2_with fail
    go_ret3
    exact ⟨_, _, _, rfl, Own.nil, (by repeat (first | exact Below.refl _ _ | assumption | refine Below.drew ?_ | refine below_drewN ?_ _ | refine Below.alloc ?_ (by first | (simp; done) | omega | (simp; omega)) _ | refine Below.setCell ?_ (by first | (simp; done) | omega | (simp; omega)) _))⟩
  · rw [if_neg hbad] at hr
    have hok : n0 = 0 ∨ n0 = 16 := by have := hl0.out; omega
    clear hbad
    obtain ⟨rw, hrw⟩ : ∃ r, texts wa = r := ⟨_, rfl⟩
    rw [hrw] at hr
    have HW := Lib.hid hrw; clear hrw
    obtain ⟨rl, hrl⟩ : ∃ r, putL entryW pl = r := ⟨_, rfl⟩
    rw [hrl] at hr
    have HL := Lib.hid hrl; clear hrl
    have HR := Lib.hid hr; clear hr
    rcases hok with rfl | rfl
    all_goals
      go_enter Try.func8, Try.ntmps8
      go_wp2_with fail
      refine (texts_any (H1.out.after (by repeat (first | exact Below.refl _ _ | assumption | refine Below.drew ?_ | refine below_drewN ?_ _ | refine Below.alloc ?_ (by first | (simp; done) | omega | (simp; omega)) _ | refine Below.setCell ?_ (by first | (simp; done) | omega | (simp; omega)) _))) rw HW.out).mono ?_
      rintro e w1 ⟨B1, m1, d1, rfl, ho1, hb1⟩
      have p0 := kcell hb1 (b := w.heap.size) (o := 0) (by go_simp; rfl)
      have p1 : w1.cell? ⟨w.heap.size, 1, none⟩ = some (.slice A1 n1 c1) := kcell hb1 (by go_simp)
      have p2 : w1.cell? ⟨w.heap.size, 2, none⟩ = some (.slice A2 n2 c2) := kcell hb1 (by go_simp)
      have hb1 : Below w.heap.size w w1 := Below.trans (by repeat (first | exact Below.refl _ _ | assumption | refine Below.drew ?_ | refine below_drewN ?_ _ | refine Below.alloc ?_ (by first | (simp; done) | omega | (simp; omega)) _ | refine Below.setCell ?_ (by first | (simp; done) | omega | (simp; omega)) _)) (hb1.mono (by simp))
      have hz1 := hb1.size
      cases rw with
      | error ew =>
        have hne : ew ≠ 0 := texts_ne HW.out
        obtain rfl := HR.out
        go_wp2_with fail
        go_ret3
        exact ⟨_, _, _, rfl, Own.nil, hb1⟩
      | ok wb =>
        go_wp2_with fail
        refine (entries_any (M := 1114117) (entries_move H2.out hb1) (fun x hx => by have := HV.out x hx; omega) (fun x hx b hb => by have := entryW_len hb; have := HV.out x hx; omega) (by intro; have := hl2.out; omega) rl HL.out).mono ?_
        rintro e w2 ⟨B2, m2, d2, rfl, ho2, hb2⟩
        replace p0 := kcell hb2 p0
        replace p1 := kcell hb2 p1
        replace p2 := kcell hb2 p2
        have hlt2 := World.block_lt_of_cell? w2 ⟨w.heap.size, 0, none⟩ p0
        simp only at hlt2
        have hbel2 : Below w.heap.size w w2 := Below.trans hb1 (hb2.mono hz1)
        cases rl with
        | error el =>
          have hne : el ≠ 0 := putL_ne (fun _ _ h => entryW_ne h) HL.out
          obtain rfl := HR.out
          go_wp2_with fail
          go_ret3
          exact ⟨_, _, _, rfl, Own.nil, hbel2⟩
        | ok lb =>
          have lw : wb.length ≤ 3276852 := by have h1 := (texts_len HW.out).1; have h2 := hl1.out; have : wa.length * 65537 ≤ 50 * 65537 := Nat.mul_le_mul_right _ (by omega); omega
          have ll : lb.length ≤ 55705852 := by
            have h1 := (putL_len (M := 1114117) (fun x hx b hb => by have := entryW_len hb; have := HV.out x hx; omega) HL.out).2
            have h2 := hl2.out
            have : pl.length * 1114117 ≤ 50 * 1114117 := Nat.mul_le_mul_right _ (by omega)
            omega
          have lt0 : tr.length ≤ 16 := by have := hl0.out; omega
          have s0 := Lib.hid (H0.out.after hbel2)
          have s1 := Lib.hid (ho1.after hb2).sl
          have s2 := Lib.hid ho2.sl
          simp only [werr_ok, wval_ok] at s1 s2 ⊢
          clear ho1 ho2
          rcases Nat.eq_zero_or_pos n1 with rfl | hp1
          all_goals
            rcases Nat.eq_zero_or_pos n2 with rfl | hp2
            all_goals
              go_wp2_with fail
              refine (put1_any (Z := w2.heap.size) (bs := []) (f := 0) (fl := 2) (cs := tr) ⟨none, 0, 0, by go_simp, by go_simp; first | done | rfl, by go_simp, by go_simp, Own.nil, by simp, by simp⟩ (s0.out.after (by repeat (first | exact Below.refl _ _ | assumption | refine Below.drew ?_ | refine below_drewN ?_ _ | refine Below.alloc ?_ (by simp) _ | refine Below.setCell ?_ (by simp) _))) (by simp only [List.length_nil]; omega) (Nat.le_refl _) (by omega) (by omega) (by simp; omega) (by decide +kernel)).mono ?_
              rintro e w4 ⟨⟨v4, rfl⟩, hO4, hb4⟩
              have hk4 : Below w2.heap.size w2 w4 := Below.trans (by repeat (first | exact Below.refl _ _ | assumption | refine Below.drew ?_ | refine below_drewN ?_ _ | refine Below.alloc ?_ (by simp) _ | refine Below.setCell ?_ (by simp) _)) hb4
              have q1 := kcell hk4 p1
              have q2 := kcell hk4 p2
              have z4 := hk4.size
              simp only [if_true, if_false, Bool.false_eq_true, List.nil_append] at hO4
              clear hb4
              go_wp2_with fail
              refine (put1_any (fl := 8) (cs := wb) hO4 (s1.out.after hk4) (by first | omega | (simp only [List.length_nil]; omega)) (Nat.le_refl _) (by omega) (by omega) z4 (by decide +kernel)).mono ?_
              rintro e w5 ⟨⟨v5, rfl⟩, hO5, hb5⟩
              have hk5 : Below w2.heap.size w2 w5 := Below.trans hk4 hb5
              replace q2 := kcell hk5 p2
              have z5 := hk5.size
              simp only [if_true, if_false, Bool.false_eq_true, List.nil_append] at hO5
              clear hb5 hO4 q1
              go_wp2_with fail
              refine (put1_any (fl := 4) (cs := lb) hO5 (s2.out.after hk5) (by first | omega | (simp only [List.length_nil, List.length_append]; omega)) (Nat.le_refl _) (by omega) (by omega) z5 (by decide +kernel)).mono ?_
              rintro e w6 ⟨⟨v6, rfl⟩, hO6, hb6⟩
              have hk6 : Below w2.heap.size w2 w6 := Below.trans hk5 hb6
              simp only [if_true, if_false, Bool.false_eq_true, List.nil_append] at hO6
              clear hb6 hO5 q2
              obtain ⟨A9, n9, c9, x0, x1, _, _, hown, _, _⟩ := hO6
              have hown' := hown.mono hbel2.size
              have hbel6 : Below w.heap.size w w6 := Below.trans hbel2 (hk6.mono hbel2.size)
              have e0 := hl0.out
              have e1 := hl1.out
              have e2 := hl2.out
              have HO := Lib.hid hown'
              clear e0 e1 e2 hown hown'
              go_wp2_with fail
              go_quiet (fail)
              go_wp2_with fail
              go_ret3
              have e0 := hl0.out
              have e1 := hl1.out
              have e2 := hl2.out
              have h0 := HR.out
              subst h0
              refine ⟨A9, n9, c9, ?_, ?_, (by repeat (first | exact Below.refl _ _ | assumption | refine Below.drew ?_ | refine below_drewN ?_ _ | refine Below.alloc ?_ (by first | (simp; done) | omega | (simp; omega)) _ | refine Below.setCell ?_ (by first | (simp; done) | omega | (simp; omega)) _))⟩
              · simp only [pflag, perr, ← e0, ← e1, ← e2]
                first | rfl | (simp [hp1, hp2]; done) | (simp [hp1]; done) | (simp [hp2]; done)
              · refine own_eq (HO.out.after (below_self_drewN _ w6 _)) ?_
                simp only [pval, ← e1, ← e2]
                try (have ht : tr = [] := List.eq_nil_of_length_eq_zero e0.symm; rw [ht])
                first | rfl | (simp; done) | (simp [hp1, hp2]; done) | (simp [hp1]; done) | (simp [hp2]; done)
end Go.Proofs.Sb
