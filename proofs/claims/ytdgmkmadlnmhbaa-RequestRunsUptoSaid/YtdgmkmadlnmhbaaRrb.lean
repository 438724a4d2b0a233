/- Walks over signalboxref08.join, count, short, values. Conditions: sums of lengths up to 2^47. -/
import Derived.Test.YtdgmkmadlnmhbaaRefb
import Derived.Test.YtdgmkmadlnmhbaaRqp
import Derived.Deep.DeepCutAuto
set_option linter.unusedVariables false
set_option linter.unusedSimpArgs false
namespace Sb
theorem werr_er (e : Int) : werr (.error e) = e := rfl
theorem wval_er (e : Int) : wval (.error e) = [] := rfl
theorem both_ok (a b : B) : bothW (.ok a) (.ok b) = .ok (a ++ b) := rfl
theorem both_e1 (e : Int) (r : Wr) : bothW (.error e) r = .error e := rfl
theorem both_e2 (a : B) (e : Int) : bothW (.ok a) (.error e) = .error e := rfl
end Sb
namespace Go.Proofs.Sb
open Go.RowKit _root_.Sb

/-- a value of the reference in two cells -/
def valRf (v : Val) (c : List Value) : Prop := c = [.int .i64 v.kind, .string (str v.bytes)] ∧ v.bytes.length ≤ 9223372036854775807
theorem valRf_one (v : Val) (c : List Value) (h : valRf v c) : ∀ u ∈ c, u.oneCell' = true := by
  rw [h.1]
  intro u hu
  simp only [List.mem_cons, List.not_mem_nil, or_false] at hu
  rcases hu with rfl | rfl <;> rfl
set_option maxHeartbeats 2000000 in
set_option maxRecDepth 100000 in
theorem rjoin8_any {S S2 : Nat → Prop} {A A2 : Option Addr} {n c n2 c2 : Nat} {w : World} {s r : Wr} (h1 : Sl S w A n c (wval s)) (h2 : Sl S2 w A2 n2 c2 (wval r)) (hs : Nw s) (hr : Nw r) (hl : lenW s + lenW r ≤ 140737488355328) :
    Calls Try.prog 29 #[.slice A n c, .int .i64 (werr s), .slice A2 n2 c2, .int .i64 (werr r)] w fun e w' => ∃ A3 n3 c3, e = .returned (.tuple #[.slice A3 n3 c3, .int .i64 (werr (bothW s r))]) ∧ Own w.heap.size w' A3 n3 c3 (wval (bothW s r)) ∧ Below w.heap.size w w' := by
  cases s with
  | error e =>
    have hne : (e != 0) = true := by simpa using hs e rfl
    simp only [werr_er, both_e1, wval_er]
    clear h1 h2 hs hr hl
    go_enter Try.func29, Try.ntmps29
    go_wp2_with fail
    go_ret2
    exact ⟨none, 0, 0, rfl, Own.nil, Below.refl _ _⟩
  | ok a =>
    cases r with
    | error e =>
      have hne : (e != 0) = true := by simpa using hr e rfl
      simp only [werr_er, both_e2, wval_er, werr_ok]
      clear h1 h2 hs hr hl
      go_enter Try.func29, Try.ntmps29
      go_wp2_with fail
      go_ret2
      exact ⟨none, 0, 0, rfl, Own.nil, Below.refl _ _⟩
    | ok b =>
      simp only [both_ok, werr_ok, wval_ok] at h1 h2 ⊢
      have hl2 : a.length + b.length ≤ 140737488355328 := hl
      have H1 := Lib.hid h1.lt; clear h1
      have H2 := Lib.hid h2.lt; clear h2
      clear hl
      go_enter Try.func29, Try.ntmps29
      go_upto_region 7 with (first | (at_builtin; refine wpList_appw rfl _ _ rfl w.heap.size _ _ _ [] rfl Own.nil _ _ _ _ a rfl H1.out (by simp only [List.length_nil]; omega) (Nat.le_refl _) ?_; intro A5 m5 d5 w5 hown5 hg5 hw5; have HO5 := Lib.hid hown5; have HB5 := Lib.hid (below_grow (Below.refl _ _) hg5 (Nat.le_refl _) fun b e => by cases e); clear hown5 hg5 hw5))
      have hz5 := HB5.out.size
      go_wp2_with (first | (at_builtin; refine wpList_appw rfl _ _ rfl w.heap.size _ _ _ a rfl HO5.out _ _ _ _ b rfl (H2.out.after HB5.out) hl2 hz5 ?_; intro A6 m6 d6 w6 hown6 hg6 hw6; have HO6 := Lib.hid hown6; have HB6 := Lib.hid (below_grow HB5.out hg6 hz5 fun b e => (HO5.out.block b e).1); clear hown6 hg6 hw6))
      go_ret2
      exact ⟨A6, m6, d6, rfl, HO6.out, HB6.out⟩
set_option maxHeartbeats 1000000 in
set_option maxRecDepth 100000 in
theorem rcount8_any {w : World} {n : Nat} (hn : n ≤ 9223372036854775807) :
    Calls Try.prog 31 #[.int .i64 (n : Int)] w fun e w' => ∃ A3 n3 c3, e = .returned (.tuple #[.slice A3 n3 c3, .int .i64 (werr (cntQ n))]) ∧ Own w.heap.size w' A3 n3 c3 (wval (cntQ n)) ∧ Below w.heap.size w w' := by
  unfold cntQ
  by_cases h : 65535 < n
  · rw [if_pos h]
    go_enter Try.func31, Try.ntmps31
    go_wp2_with fail
    go_ret2
    exact ⟨none, 0, 0, rfl, Own.nil, Below.refl _ _⟩
  · rw [if_neg h]
    go_enter Try.func31, Try.ntmps31
    go_wp2_with (first | (go_at_call 64; refine (rput_any _ 2 _ (by omega) (by omega) (by omega) (by omega)).mono ?_; rintro e w1 ⟨A, m, c, rfl, ho, hb⟩))
    go_ret2
    exact ⟨_, _, _, rfl, by simpa using ho, hb⟩
set_option maxHeartbeats 4000000 in
set_option maxRecDepth 100000 in
theorem rvals8_any {S S2 : Nat → Prop} {w : World} {A1 A2 : Option Addr} {n1 c1 n2 c2 : Nat} {l : List Val} {names : List B} (hv : Arr 2 valRf S w A1 n1 c1 l) (hn : Arr 1 strP S2 w A2 n2 c2 names) (hnm : names = [] ∨ names.length = l.length) (hl : 2 * costE (elsQ names l) ≤ 140737488200000) :
    Calls Try.prog 32 #[.slice A1 n1 c1, .slice A2 n2 c2] w fun e w' => ∃ A3 n3 c3, e = .returned (.tuple #[.slice A3 n3 c3, .int .i64 (werr (valsQ names l))]) ∧ Own w.heap.size w' A3 n3 c3 (wval (valsQ names l)) ∧ Below w.heap.size w w' := by
  have hlen := Lib.hid hv.len
  have hcap := hv.cap
  have hcm := hv.capMax
  have hlen2 := Lib.hid hn.len
  have hcap2 := hn.cap
  have hcm2 := hn.capMax
  have HV := Lib.hid hv.lt; clear hv
  have HN := Lib.hid hn.lt; clear hn
  have HNM := Lib.hid hnm; clear hnm
  have HEL : Hid ((elsQ names l).length = l.length) := Lib.hid (els_len HNM.out)
  obtain ⟨nm, hnmd⟩ : ∃ nm, nm = decide (names ≠ []) := ⟨_, rfl⟩
  have HQ : Hid (valsQ names l = bothW (cntQ l.length) (putsM (entQ nm) (elsQ names l))) := Lib.hid (by rw [hnmd]; rfl)
  have HNMD := Lib.hid hnmd; clear hnmd
  go_enter Try.func32, Try.ntmps32
  go_upto_region 2 with (first | (go_at_call 31; refine (rcount8_any (by omega)).mono ?_; rintro e w1 ⟨A, m, c, rfl, ho, hb⟩; have HO := Lib.hid ho; have HB := Lib.hid hb; clear ho hb))
  have HC : Hid (Nw (cntQ n1)) := nwCnt n1
  obtain ⟨s0, hs0⟩ : ∃ s0, s0 = cntQ n1 := ⟨_, rfl⟩
  rw [← hs0] at HO HC ⊢
  have HS0 : Hid (s0 = cntQ l.length) := Lib.hid (by rw [← hlen.out]; exact hs0)
  clear hs0
  go_wp2_with fail
  go_loopw [6, 7, 8] (fun b e i wr => ∃ k A m c s, k ≤ n1 ∧ b = .slice A m c ∧ e = .int .i64 (werr s) ∧ i = .int .i64 (k : Nat) ∧ Hid (s = bothW s0 (putsM (entQ nm) ((elsQ names l).take k))) ∧ Hid (Own w.heap.size wr A m c (wval s)) ∧ Hid (Below w.heap.size w wr)) (fun _ _ i _ => n1 - (intOf i).toNat)
  case atStart => exact ⟨0, A, m, c, s0, by omega, rfl, rfl, rfl, Lib.hid (bothQ_nil s0).symm, HO, HB⟩
  case round =>
    obtain ⟨k, A, m, c, s, hk, rfl, rfl, rfl, HS, HO, HB⟩ := hrel
    have hNw : Nw s := by rw [HS.out]; exact (HS0.out ▸ nwCnt _).both (nwMs (fun _ => (Nw.ite (nwText _) (Nw.ok _)).both (nwValue _)) _)
    have hls : lenW s ≤ 2 + costE (elsQ names l) := by
      rw [HS.out]
      have h1 := lenW_both s0 (putsM (entQ nm) ((elsQ names l).take k))
      have h2 : lenW s0 ≤ 2 := by rw [HS0.out]; exact cnt_len _
      have h3 := puts_le nm ((elsQ names l).take k)
      have h4 := cost_take (elsQ names l) k
      omega
    by_cases hlt : k < n1
    · cases s with
      | error e =>
        have hne : (e == 0) = false := by simpa using hNw e rfl
        have HF : Hid (valsQ names l = .error e) := Lib.hid (by rw [HQ.out, ← HS0.out]; exact putsM_part (entQ nm) (elsQ names l) k s0 HS.out.symm)
        rw [werr_er]
        clear hls
        go_wp2_with fail
        go_ret2
        exact ⟨A, m, c, by rw [HF.out]; rfl, by rw [HF.out]; exact HO.out, HB.out⟩
      | ok sb =>
        rw [werr_ok]
        obtain ⟨p, hp⟩ : ∃ p, (elsQ names l)[k]? = some p := ⟨_, List.getElem?_eq_getElem (by have := HEL.out; have := hlen.out; omega)⟩
        obtain ⟨hx, hxn, hxe⟩ := els_get hp
        obtain ⟨b1, o1, rfl, hS1, hz1, HC1⟩ := (HV.out.after HB.out).at (by decide) (by omega)
        obtain ⟨v1, _, hp1, hv1⟩ := HC1 k _ hx
        obtain ⟨rfl, hxl⟩ := hp1
        have e0 := hv1 0 _ rfl
        have e1 := hv1 1 _ rfl
        simp only [Nat.add_zero] at e0
        have hcm' := cost_mem (List.mem_of_getElem? hp)
        have hSN := putsM_snoc (entQ nm) hp
        have HSN : Hid (bothW s0 (putsM (entQ nm) ((elsQ names l).take (k + 1))) = bothW (.ok sb) (entQ nm p)) := Lib.hid (by rw [hSN, ← bothW_assoc, ← HS.out])
        have hlv := value_le p.2
        have hlt' := text_le p.1
        have hlsb : sb.length ≤ 2 + costE (elsQ names l) := hls
        clear hv1 HC1 hS1 hz1 hSN hls
        by_cases hne : names = []
        · have hn20 : n2 = 0 := by rw [hlen2.out, hne]; rfl
          subst hn20
          have HNF : Hid (nm = false) := Lib.hid (by rw [HNMD.out, hne]; rfl)
          clear hne hxn hxe
          go_wp2_with (first | (go_at_call 27; refine (rvalue_any p.2 _ (by omega) (value p.2) rfl).mono ?_; rintro e w2 ⟨A3, m3, d3, rfl, ho3, hb3⟩; have HO3 := Lib.hid ho3; have HB3 := Lib.hid hb3; have HOk := Lib.hid (HO.out.after hb3); clear ho3 hb3) | (go_at_call 29; refine (rjoin8_any (s := .ok sb) (r := value p.2) HOk.out.sl HO3.out.sl (Nw.ok _) (nwValue _) (by show sb.length + _ ≤ _; omega)).mono ?_; rintro e w4 ⟨A4, m4, d4, rfl, ho4, hb4⟩; have HO4 := Lib.hid ho4; have HB4 := Lib.hid (HB3.out.trans (hb4.mono HB3.out.size)); clear ho4 hb4))
          refine ⟨⟨k + 1, A4, m4, d4, bothW (.ok sb) (value p.2), by omega, rfl, rfl, by go_num, Lib.hid (by rw [HSN.out, HNF.out, show entQ false p = value p.2 from bothW_left _]), Lib.hid (HO4.out.mono (by have := HB.out.size; have := HB3.out.size; omega)), Lib.hid (HB.out.trans (HB4.out.mono HB.out.size))⟩, by simp [intOf]; omega⟩
        · have hnl : names.length = l.length := by rcases HNM.out with h | h; exact absurd h hne; exact h
          have hn2 : n2 = n1 := by rw [hlen2.out, hlen.out, hnl]
          subst hn2
          have h0n : 0 < n2 := by omega
          have HNT : Hid (nm = true) := Lib.hid (by rw [HNMD.out]; exact decide_eq_true hne)
          obtain ⟨b2, o2, rfl, hS2, hz2, HC2⟩ := (HN.out.after HB.out).at (by decide) (by omega)
          obtain ⟨v2, _, hp2, hv2⟩ := HC2 k _ (hxn hne)
          obtain ⟨rfl, hxl2⟩ := hp2
          have f0 := hv2 0 _ rfl
          simp only [Nat.mul_one, Nat.add_zero] at f0
          clear hv2 HC2 hS2 hz2 hne hxn hxe hnl
          go_upto_region 8 with (first | (go_at_call 65; refine (rtext_any p.1 _ hxl2 (text p.1) rfl).mono ?_; rintro e w2 ⟨A3, m3, d3, rfl, ho3, hb3⟩; have HO3 := Lib.hid ho3; have HB3 := Lib.hid hb3; have HOk := Lib.hid (HO.out.after hb3); clear ho3 hb3) | (go_at_call 29; refine (rjoin8_any (s := .ok sb) (r := text p.1) HOk.out.sl HO3.out.sl (Nw.ok _) (nwText _) (by show sb.length + _ ≤ _; omega)).mono ?_; rintro e w4 ⟨A4, m4, d4, rfl, ho4, hb4⟩; have HO4 := Lib.hid ho4; have HB4 := Lib.hid (HB3.out.trans (hb4.mono HB3.out.size)); clear ho4 hb4))
          have g0 := kcell HB4.out e0
          have g1 := kcell HB4.out e1
          have hlt4 := lenW_both (.ok sb) (text p.1)
          have hsb : lenW (.ok sb) = sb.length := rfl
          obtain ⟨s4, hs4⟩ : ∃ s4, s4 = bothW (.ok sb) (text p.1) := ⟨_, rfl⟩
          rw [← hs4] at HO4 hlt4 ⊢
          have hN4 : Nw s4 := by rw [hs4]; exact (Nw.ok _).both (nwText _)
          have HS4 := Lib.hid hs4; clear hs4
          go_wp2_with (first | (go_at_call 27; refine (rvalue_any p.2 _ (by omega) (value p.2) rfl).mono ?_; rintro e w5 ⟨A5, m5, d5, rfl, ho5, hb5⟩; have HO5 := Lib.hid ho5; have HB5 := Lib.hid (HB4.out.trans (hb5.mono HB4.out.size)); have HOq := Lib.hid (HO4.out.after hb5); clear ho5 hb5) | (go_at_call 29; refine (rjoin8_any (s := s4) (r := value p.2) HOq.out.sl HO5.out.sl hN4 (nwValue _) (by omega)).mono ?_; rintro e w6 ⟨A6, m6, d6, rfl, ho6, hb6⟩; have HO6 := Lib.hid ho6; have HB6 := Lib.hid (HB5.out.trans (hb6.mono HB5.out.size)); have hz5 := HB5.out.size; clear ho6 hb6))
          refine ⟨⟨k + 1, A6, m6, d6, bothW s4 (value p.2), by omega, rfl, rfl, by go_num, Lib.hid (by rw [HSN.out, HNT.out, HS4.out, bothW_assoc]; rfl), Lib.hid (HO6.out.mono (by have := HB.out.size; omega)), Lib.hid (HB.out.trans (HB6.out.mono HB.out.size))⟩, by simp [intOf]; omega⟩
    · obtain rfl : n1 = k := by omega
      have hF : s = valsQ names l := by rw [HS.out, HQ.out, ← HS0.out, List.take_of_length_le (by have := HEL.out; have := hlen.out; omega)]
      have HF := Lib.hid hF; clear hF hNw hls
      go_wp2_with fail
      go_ret2
      exact ⟨A, m, c, by rw [← HF.out]; rfl, by rw [← HF.out]; exact HO.out, HB.out⟩
end Go.Proofs.Sb

/- Walks over signalboxref08.flags, run. Conditions: sums of lengths up to 2^47. (written by gen_rqref.py) -/
namespace Sb
open Go
theorem am_k0 : ∀ a b c d e f g : Bool, a = true → (((flK true b c d e f g 0 : Nat) : Int) + 1) % 256 = ((flK a b c d e f g 1 : Nat) : Int) := by decide +kernel
theorem an_k0 : ∀ a b c d e f g : Bool, a = false → ((flK false b c d e f g 0 : Nat) : Int) = ((flK a b c d e f g 1 : Nat) : Int) := by decide +kernel
theorem ao_k0 : ∀ a b c d e f g : Bool, a = true → (((flK a b c d e f g 0 : Nat) : Int) + 1) % 256 = ((flK a b c d e f g 1 : Nat) : Int) := by decide +kernel
theorem ap_k0 : ∀ a b c d e f g : Bool, a = false → ((flK a b c d e f g 0 : Nat) : Int) = ((flK a b c d e f g 1 : Nat) : Int) := by decide +kernel
theorem am_k1 : ∀ a b c d e f g : Bool, b = true → (((flK a true c d e f g 1 : Nat) : Int) + 2) % 256 = ((flK a b c d e f g 2 : Nat) : Int) := by decide +kernel
theorem an_k1 : ∀ a b c d e f g : Bool, b = false → ((flK a false c d e f g 1 : Nat) : Int) = ((flK a b c d e f g 2 : Nat) : Int) := by decide +kernel
theorem ao_k1 : ∀ a b c d e f g : Bool, b = true → (((flK a b c d e f g 1 : Nat) : Int) + 2) % 256 = ((flK a b c d e f g 2 : Nat) : Int) := by decide +kernel
theorem ap_k1 : ∀ a b c d e f g : Bool, b = false → ((flK a b c d e f g 1 : Nat) : Int) = ((flK a b c d e f g 2 : Nat) : Int) := by decide +kernel
theorem am_k2 : ∀ a b c d e f g : Bool, c = true → (((flK a b true d e f g 2 : Nat) : Int) + 4) % 256 = ((flK a b c d e f g 3 : Nat) : Int) := by decide +kernel
theorem an_k2 : ∀ a b c d e f g : Bool, c = false → ((flK a b false d e f g 2 : Nat) : Int) = ((flK a b c d e f g 3 : Nat) : Int) := by decide +kernel
theorem ao_k2 : ∀ a b c d e f g : Bool, c = true → (((flK a b c d e f g 2 : Nat) : Int) + 4) % 256 = ((flK a b c d e f g 3 : Nat) : Int) := by decide +kernel
theorem ap_k2 : ∀ a b c d e f g : Bool, c = false → ((flK a b c d e f g 2 : Nat) : Int) = ((flK a b c d e f g 3 : Nat) : Int) := by decide +kernel
theorem am_k3 : ∀ a b c d e f g : Bool, d = true → (((flK a b c true e f g 3 : Nat) : Int) + 8) % 256 = ((flK a b c d e f g 4 : Nat) : Int) := by decide +kernel
theorem an_k3 : ∀ a b c d e f g : Bool, d = false → ((flK a b c false e f g 3 : Nat) : Int) = ((flK a b c d e f g 4 : Nat) : Int) := by decide +kernel
theorem ao_k3 : ∀ a b c d e f g : Bool, d = true → (((flK a b c d e f g 3 : Nat) : Int) + 8) % 256 = ((flK a b c d e f g 4 : Nat) : Int) := by decide +kernel
theorem ap_k3 : ∀ a b c d e f g : Bool, d = false → ((flK a b c d e f g 3 : Nat) : Int) = ((flK a b c d e f g 4 : Nat) : Int) := by decide +kernel
theorem am_k4 : ∀ a b c d e f g : Bool, e = true → (((flK a b c d true f g 4 : Nat) : Int) + 16) % 256 = ((flK a b c d e f g 5 : Nat) : Int) := by decide +kernel
theorem an_k4 : ∀ a b c d e f g : Bool, e = false → ((flK a b c d false f g 4 : Nat) : Int) = ((flK a b c d e f g 5 : Nat) : Int) := by decide +kernel
theorem ao_k4 : ∀ a b c d e f g : Bool, e = true → (((flK a b c d e f g 4 : Nat) : Int) + 16) % 256 = ((flK a b c d e f g 5 : Nat) : Int) := by decide +kernel
theorem ap_k4 : ∀ a b c d e f g : Bool, e = false → ((flK a b c d e f g 4 : Nat) : Int) = ((flK a b c d e f g 5 : Nat) : Int) := by decide +kernel
theorem am_k5 : ∀ a b c d e f g : Bool, f = true → (((flK a b c d e true g 5 : Nat) : Int) + 32) % 256 = ((flK a b c d e f g 6 : Nat) : Int) := by decide +kernel
theorem an_k5 : ∀ a b c d e f g : Bool, f = false → ((flK a b c d e false g 5 : Nat) : Int) = ((flK a b c d e f g 6 : Nat) : Int) := by decide +kernel
theorem ao_k5 : ∀ a b c d e f g : Bool, f = true → (((flK a b c d e f g 5 : Nat) : Int) + 32) % 256 = ((flK a b c d e f g 6 : Nat) : Int) := by decide +kernel
theorem ap_k5 : ∀ a b c d e f g : Bool, f = false → ((flK a b c d e f g 5 : Nat) : Int) = ((flK a b c d e f g 6 : Nat) : Int) := by decide +kernel
theorem am_k6 : ∀ a b c d e f g : Bool, g = true → (((flK a b c d e f true 6 : Nat) : Int) + 64) % 256 = ((flK a b c d e f g 7 : Nat) : Int) := by decide +kernel
theorem an_k6 : ∀ a b c d e f g : Bool, g = false → ((flK a b c d e f false 6 : Nat) : Int) = ((flK a b c d e f g 7 : Nat) : Int) := by decide +kernel
theorem ao_k6 : ∀ a b c d e f g : Bool, g = true → (((flK a b c d e f g 6 : Nat) : Int) + 64) % 256 = ((flK a b c d e f g 7 : Nat) : Int) := by decide +kernel
theorem ap_k6 : ∀ a b c d e f g : Bool, g = false → ((flK a b c d e f g 6 : Nat) : Int) = ((flK a b c d e f g 7 : Nat) : Int) := by decide +kernel
theorem aq_1 : ∀ a b c d e f g : Bool, a = true → (1 : Int) = ((flK a b c d e f g 1 : Nat) : Int) := by decide +kernel
theorem aq_0 : ∀ a b c d e f g : Bool, a = false → (0 : Int) = ((flK a b c d e f g 1 : Nat) : Int) := by decide +kernel
theorem fl7_low : ∀ a b c d e f g : Bool, (decide (0 < fl7 a b c d e f g % 16) || decide (64 ≤ fl7 a b c d e f g)) = !noB (fl7 a b c d e f g) := by decide +kernel
end Sb
namespace Go.Proofs.Sb
open Go.RowKit _root_.Sb
/-- a run of the reference in its cells -/
def runV (p : Par) (A1 : Option Addr) (n1 c1 : Nat) (A2 : Option Addr) (n2 c2 : Nat) : List Value := [.int .u16 (p.cons : Int), .slice A1 n1 c1, .slice A2 n2 c2, .bool p.skip, .bool p.paged, .int .i32 p.page, .bool p.resumed, .int .i64 p.state.kind, .string (str p.state.bytes), .bool p.serially, .int .u16 (p.serial : Int), .bool p.timed, .int .i64 p.time]
/-- what its rows read as -/
structure RunR (S : Nat → Prop) (w : World) (A1 : Option Addr) (n1 c1 : Nat) (A2 : Option Addr) (n2 c2 : Nat) (lv : List Val) (ln : List B) : Prop where
  values : Arr 2 valRf S w A1 n1 c1 lv
  names : Arr 1 strP S w A2 n2 c2 ln
theorem goesRunR {A1 : Option Addr} {n1 c1 : Nat} {A2 : Option Addr} {n2 c2 : Nat} {lv : List Val} {ln : List B} : Goes fun S w => RunR S w A1 n1 c1 A2 n2 c2 lv ln :=
  ⟨fun h hs hk => ⟨goesArr.keep h.1 hs hk, goesArr.keep h.2 hs hk⟩, fun h hS => ⟨goesArr.mono h.1 hS, goesArr.mono h.2 hS⟩⟩
set_option maxHeartbeats 4000000 in
set_option maxRecDepth 100000 in
theorem rflags8_any {w : World} {p : Par} {A1 : Option Addr} {n1 c1 : Nat} {A2 : Option Addr} {n2 c2 : Nat} :
    Calls Try.prog 67 #[.agg (runV p A1 n1 c1 A2 n2 c2).toArray] w fun e w' => e = .returned (.int .u8 (fl7 (decide (0 < n1)) p.skip p.paged p.resumed p.serially p.timed (decide (0 < n2)) : Nat)) ∧ Below w.heap.size w w' := by
  obtain ⟨cs, values, names, sk, pd, pg, rs, sv, sl, sr, td, tm⟩ := p
  simp only [runV]
  go_enter Try.func67, Try.ntmps67
  go_upto_region 1 with fail
  obtain ⟨w1, hw1⟩ : ∃ w1, w1 = w.alloc (.cells [.int .u16 (cs : Int), .slice A1 n1 c1, .slice A2 n2 c2, .bool sk, .bool pd, .int .i32 pg, .bool rs, .int .i64 sv.kind, .string (str sv.bytes), .bool sl, .int .u16 (sr : Int), .bool td, .int .i64 tm].toArray 45) := ⟨_, rfl⟩
  rw [← hw1]
  have hB1 : Below w.heap.size w w1 := by rw [hw1]; exact (Below.refl _ _).alloc (Nat.le_refl _) _
  have hbx : Bx (fun b => b = w.heap.size) w1 w.heap.size [.int .u16 (cs : Int), .slice A1 n1 c1, .slice A2 n2 c2, .bool sk, .bool pd, .int .i32 pg, .bool rs, .int .i64 sv.kind, .string (str sv.bytes), .bool sl, .int .u16 (sr : Int), .bool td, .int .i64 tm] := by
    rw [hw1]; exact Bx.alloc w _ 45 (S := fun b => b = w.heap.size) rfl rfl
  have HBX := Lib.hid hbx; clear hbx hw1
  have HB1 := Lib.hid hB1; clear hB1
  have k1 := HBX.out.c 1 _ rfl
  have k2 := HBX.out.c 2 _ rfl
  have k3 := HBX.out.c 3 _ rfl
  have k4 := HBX.out.c 4 _ rfl
  have k6 := HBX.out.c 6 _ rfl
  have k9 := HBX.out.c 9 _ rfl
  have k11 := HBX.out.c 11 _ rfl
  go_upto_if 7 with fail
  go_cut [3] (fun f wx => f = .int .u8 ((flK (decide (0 < n1)) sk pd rs sl td (decide (0 < n2)) 1 : Nat) : Int) ∧ w1 = wx)
  case first =>
    rcases Bool.eq_false_or_eq_true (decide (0 < n1)) with hb | hb
    · have HB := Lib.hid hb
      have hb1 : 0 < n1 := by simpa using hb
      clear hb
      go_wp2_with fail
      go_meet
      exact ⟨congrArg (Value.int .u8) (by first | exact aq_1 _ _ _ _ _ _ _ HB.out | exact aq_0 _ _ _ _ _ _ _ HB.out | exact am_k0 _ _ _ _ _ _ _ HB.out | exact an_k0 _ _ _ _ _ _ _ HB.out | exact ao_k0 _ _ _ _ _ _ _ HB.out | exact ap_k0 _ _ _ _ _ _ _ HB.out), rfl⟩
    · have HB := Lib.hid hb
      have hb1 : ¬ 0 < n1 := by simpa using hb
      clear hb
      go_wp2_with fail
      go_meet
      exact ⟨congrArg (Value.int .u8) (by first | exact aq_1 _ _ _ _ _ _ _ HB.out | exact aq_0 _ _ _ _ _ _ _ HB.out | exact am_k0 _ _ _ _ _ _ _ HB.out | exact an_k0 _ _ _ _ _ _ _ HB.out | exact ao_k0 _ _ _ _ _ _ _ HB.out | exact ap_k0 _ _ _ _ _ _ _ HB.out), rfl⟩
  obtain ⟨rfl, rfl⟩ := hcut
  go_upto_if 11 with fail
  go_cut [3] (fun f wx => f = .int .u8 ((flK (decide (0 < n1)) sk pd rs sl td (decide (0 < n2)) 2 : Nat) : Int) ∧ w1 = wx)
  case first =>
    go_wp2_with fail
    all_goals (go_meet; exact ⟨congrArg (Value.int .u8) (by first | exact aq_1 _ _ _ _ _ _ _ (by assumption) | exact aq_0 _ _ _ _ _ _ _ (by assumption) | exact am_k1 _ _ _ _ _ _ _ (by assumption) | exact an_k1 _ _ _ _ _ _ _ (by assumption) | exact ao_k1 _ _ _ _ _ _ _ (by assumption) | exact ap_k1 _ _ _ _ _ _ _ (by assumption)), rfl⟩)
  obtain ⟨rfl, rfl⟩ := hcut
  go_upto_if 15 with fail
  go_cut [3] (fun f wx => f = .int .u8 ((flK (decide (0 < n1)) sk pd rs sl td (decide (0 < n2)) 3 : Nat) : Int) ∧ w1 = wx)
  case first =>
    go_wp2_with fail
    all_goals (go_meet; exact ⟨congrArg (Value.int .u8) (by first | exact aq_1 _ _ _ _ _ _ _ (by assumption) | exact aq_0 _ _ _ _ _ _ _ (by assumption) | exact am_k2 _ _ _ _ _ _ _ (by assumption) | exact an_k2 _ _ _ _ _ _ _ (by assumption) | exact ao_k2 _ _ _ _ _ _ _ (by assumption) | exact ap_k2 _ _ _ _ _ _ _ (by assumption)), rfl⟩)
  obtain ⟨rfl, rfl⟩ := hcut
  go_upto_if 19 with fail
  go_cut [3] (fun f wx => f = .int .u8 ((flK (decide (0 < n1)) sk pd rs sl td (decide (0 < n2)) 4 : Nat) : Int) ∧ w1 = wx)
  case first =>
    go_wp2_with fail
    all_goals (go_meet; exact ⟨congrArg (Value.int .u8) (by first | exact aq_1 _ _ _ _ _ _ _ (by assumption) | exact aq_0 _ _ _ _ _ _ _ (by assumption) | exact am_k3 _ _ _ _ _ _ _ (by assumption) | exact an_k3 _ _ _ _ _ _ _ (by assumption) | exact ao_k3 _ _ _ _ _ _ _ (by assumption) | exact ap_k3 _ _ _ _ _ _ _ (by assumption)), rfl⟩)
  obtain ⟨rfl, rfl⟩ := hcut
  go_upto_if 23 with fail
  go_cut [3] (fun f wx => f = .int .u8 ((flK (decide (0 < n1)) sk pd rs sl td (decide (0 < n2)) 5 : Nat) : Int) ∧ w1 = wx)
  case first =>
    go_wp2_with fail
    all_goals (go_meet; exact ⟨congrArg (Value.int .u8) (by first | exact aq_1 _ _ _ _ _ _ _ (by assumption) | exact aq_0 _ _ _ _ _ _ _ (by assumption) | exact am_k4 _ _ _ _ _ _ _ (by assumption) | exact an_k4 _ _ _ _ _ _ _ (by assumption) | exact ao_k4 _ _ _ _ _ _ _ (by assumption) | exact ap_k4 _ _ _ _ _ _ _ (by assumption)), rfl⟩)
  obtain ⟨rfl, rfl⟩ := hcut
  go_upto_if 27 with fail
  go_cut [3] (fun f wx => f = .int .u8 ((flK (decide (0 < n1)) sk pd rs sl td (decide (0 < n2)) 6 : Nat) : Int) ∧ w1 = wx)
  case first =>
    go_wp2_with fail
    all_goals (go_meet; exact ⟨congrArg (Value.int .u8) (by first | exact aq_1 _ _ _ _ _ _ _ (by assumption) | exact aq_0 _ _ _ _ _ _ _ (by assumption) | exact am_k5 _ _ _ _ _ _ _ (by assumption) | exact an_k5 _ _ _ _ _ _ _ (by assumption) | exact ao_k5 _ _ _ _ _ _ _ (by assumption) | exact ap_k5 _ _ _ _ _ _ _ (by assumption)), rfl⟩)
  obtain ⟨rfl, rfl⟩ := hcut
  go_upto_if 33 with fail
  go_cut [3] (fun f wx => f = .int .u8 ((flK (decide (0 < n1)) sk pd rs sl td (decide (0 < n2)) 7 : Nat) : Int) ∧ w1 = wx)
  case first =>
    rcases Bool.eq_false_or_eq_true (decide (0 < n2)) with hb | hb
    · have HB := Lib.hid hb
      have hb1 : 0 < n2 := by simpa using hb
      clear hb
      go_wp2_with fail
      go_meet
      exact ⟨congrArg (Value.int .u8) (by first | exact aq_1 _ _ _ _ _ _ _ HB.out | exact aq_0 _ _ _ _ _ _ _ HB.out | exact am_k6 _ _ _ _ _ _ _ HB.out | exact an_k6 _ _ _ _ _ _ _ HB.out | exact ao_k6 _ _ _ _ _ _ _ HB.out | exact ap_k6 _ _ _ _ _ _ _ HB.out), rfl⟩
    · have HB := Lib.hid hb
      have hb1 : ¬ 0 < n2 := by simpa using hb
      clear hb
      go_wp2_with fail
      go_meet
      exact ⟨congrArg (Value.int .u8) (by first | exact aq_1 _ _ _ _ _ _ _ HB.out | exact aq_0 _ _ _ _ _ _ _ HB.out | exact am_k6 _ _ _ _ _ _ _ HB.out | exact an_k6 _ _ _ _ _ _ _ HB.out | exact ao_k6 _ _ _ _ _ _ _ HB.out | exact ap_k6 _ _ _ _ _ _ _ HB.out), rfl⟩
  obtain ⟨rfl, rfl⟩ := hcut
  rw [flK_7]
  go_wp2_with fail
  go_ret
  exact ⟨rfl, HB1.out⟩
end Go.Proofs.Sb
