/- The walk over signalboxlaw07.PrefixFlags: true at every input, and nothing that was there has turned. Conditions: none. -/
import Derived.Test.YtpgcadicamnpkaaLawPReads
set_option linter.unusedVariables false
set_option linter.unusedSimpArgs false
namespace Go.Proofs.Sb
open Go.RowKit _root_.Sb

theorem flag14 : ∀ f : Fin 256, bits .and .u8 ((f : Nat) : Int) 14 = (((f : Nat) &&& 14 : Nat) : Int) := by decide +kernel
theorem flag251 : ∀ f : Fin 256, bits .andNot .u8 ((f : Nat) : Int) 4 = (((f : Nat) &&& 251 : Nat) : Int) := by decide +kernel
theorem flags14 : ∀ f : Fin 256, flagB ((f : Nat) &&& 14) 2 = flagB f 2 ∧ flagB ((f : Nat) &&& 14) 8 = flagB f 8 ∧ flagB ((f : Nat) &&& 14) 4 = flagB f 4 ∧ ((f : Nat) &&& 14) < 256 := by decide +kernel
theorem flags251 : ∀ f : Fin 256, flagB ((f : Nat) &&& 251) 4 = false ∧ ((f : Nat) &&& 251) < 256 := by decide +kernel
theorem read14 {f : Nat} (hf : f < 256) (b : B) : readR (f &&& 14) respParts Pre.none b = readR f respParts Pre.none b := by
  obtain ⟨h1, h2, h3, _⟩ := flags14 ⟨f, hf⟩
  simp only at h1 h2 h3
  simp only [respParts, readR, h1, h2, h3]
theorem read251 {f : Nat} (hf : f < 256) (b : B) : readR (f &&& 251) reqParts Pre.none b = .ok (Pre.none, b) := by
  obtain ⟨h1, _⟩ := flags251 ⟨f, hf⟩
  simp only at h1
  simp [reqParts, readR, h1]

theorem resp_zero {S : Nat → Prop} {A : Option Addr} {m c : Nat} {bs : B} {w : World} (hs : Sl S w A m c bs) (hm : m ≤ 140737488355328) :
    Calls Try.prog 11 #[.int .u8 0, .slice A m c] w fun e w' => ∃ A0 n0 c0 A1 n1 c1 A2 n2 c2 A3 n3 c3, e = .returned (.tuple #[.agg #[.slice A0 n0 c0, .slice A1 n1 c1, .slice A2 n2 c2], .slice A3 n3 c3, .int .i64 0]) ∧
      Sl (fun b => w.heap.size ≤ b) w' A0 n0 c0 [] ∧ Arr 1 strP (fun b => w.heap.size ≤ b) w' A1 n1 c1 [] ∧ Arr 3 (entryP (fun b => w.heap.size ≤ b) w') (fun b => w.heap.size ≤ b) w' A2 n2 c2 [] ∧ Sl S w' A3 n3 c3 bs ∧ Below w.heap.size w w' :=
  resp_any (f := 0) hs hm (by decide) (.ok (Pre.none, bs)) rfl

theorem req_251 {S : Nat → Prop} {A : Option Addr} {m c f : Nat} {bs : B} {w : World} (hs : Sl S w A m c bs) (hm : m ≤ 140737488355328) (hf : f < 256) :
    Calls Try.prog 14 #[.int .u8 ((f &&& 251 : Nat) : Int), .slice A m c] w fun e w' => ∃ A0 n0 c0 A1 n1 c1 A2 n2 c2 A3 n3 c3, e = .returned (.tuple #[.agg #[.slice A0 n0 c0, .slice A1 n1 c1, .slice A2 n2 c2], .slice A3 n3 c3, .int .i64 0]) ∧
      Sl (fun b => w.heap.size ≤ b) w' A0 n0 c0 [] ∧ Arr 1 strP (fun b => w.heap.size ≤ b) w' A1 n1 c1 [] ∧ Arr 3 (entryP (fun b => w.heap.size ≤ b) w') (fun b => w.heap.size ≤ b) w' A2 n2 c2 [] ∧ Sl S w' A3 n3 c3 bs ∧ Below w.heap.size w w' :=
  req_any hs hm (flags251 ⟨f, hf⟩).2 (.ok (Pre.none, bs)) (read251 hf bs)

set_option maxHeartbeats 8000000 in
set_option maxRecDepth 100000 in
theorem prefixFlags_small {S : Nat → Prop} {A : Option Addr} {m c f : Nat} {bs : B} {w : World} (hs : Sl S w A m c bs) (hf : f < 256) (hm : m ≤ 1000) :
    Calls Try.prog 6 #[.int .u8 (f : Int), .slice A m c] w fun e w' => e = .returned (.bool true) ∧ Below w.heap.size w w' := by
  have hsc := hs.cap
  have hsm := hs.capMax
  have HS := Lib.hid hs; clear hs
  obtain ⟨ra, hra⟩ : ∃ r, readR f respParts Pre.none bs = r := ⟨_, rfl⟩
  have ca := Lib.hid (readR_cnt hra ⟨by simp [Pre.none], by simp [Pre.none]⟩)
  have HA := Lib.hid hra; clear hra
  have h14 := flag14 ⟨f, hf⟩
  have h251 := flag251 ⟨f, hf⟩
  simp only at h14 h251
  go_enter Try.func6, Try.ntmps6
  go_wp2_with fail
  refine (awake7 _).mono ?_
  rintro e w1 ⟨rfl, hb1⟩
  have hz1 := hb1.size
  go_wp2_with fail
  refine (resp_any (HS.out.after hb1) (by omega) hf ra HA.out).mono ?_
  rintro e w2 ⟨B0, n0, c0, B1, n1, c1, B2, n2, c2, B3, n3, c3, rfl, h0, h1, h2, h3, hb2⟩
  have bel2 : Below w.heap.size w w2 := Below.trans hb1 (hb2.mono hz1)
  have hz2 := bel2.size
  clear hb1 hb2
  go_wp2_with fail
  clear h14
  refine (resp_any (f := f &&& 14) (HS.out.after (by repeat (first | exact Below.refl _ _ | assumption | refine Below.drew ?_ | refine below_drewN ?_ _ | refine Below.alloc ?_ (by first | (simp; done) | omega | (simp; omega)) _ | refine Below.setCell ?_ (by first | (simp; done) | omega | (simp; omega)) _))) (by omega) (flags14 ⟨f, hf⟩).2.2.2 ra ((read14 hf bs).trans HA.out)).mono ?_
  rintro e w3 ⟨C0, l0, d0, C1, l1, d1, C2, l2, d2, C3, l3, d3, rfl, i0, i1, i2, i3, hb3⟩
  have a0 : w3.cell? ⟨w2.heap.size, 0, none⟩ = some (.slice B0 n0 c0) := kcell hb3 (by go_simp)
  have a1 : w3.cell? ⟨w2.heap.size, 1, none⟩ = some (.slice B1 n1 c1) := kcell hb3 (by go_simp)
  have a2 : w3.cell? ⟨w2.heap.size, 2, none⟩ = some (.slice B2 n2 c2) := kcell hb3 (by go_simp)
  have hb23 : Below w2.heap.size w2 w3 := Below.trans (by repeat (first | exact Below.refl _ _ | assumption | refine Below.drew ?_ | refine below_drewN ?_ _ | refine Below.alloc ?_ (by simp) _ | refine Below.setCell ?_ (by simp) _)) (hb3.mono (by simp))
  have bel3 : Below w.heap.size w w3 := Below.trans bel2 (hb23.mono hz2)
  have hz3 := bel3.size
  have lt23 := World.block_lt_of_cell? w3 ⟨w2.heap.size, 0, none⟩ a0
  simp only at lt23
  clear hb3
  go_wp2_with fail
  have hb3a : Below w3.heap.size w3 (w3.alloc (.cells #[.slice C0 l0 d0, .slice C1 l1 d1, .slice C2 l2 d2] 26)) := (by repeat (first | exact Below.refl _ _ | assumption | refine Below.drew ?_ | refine below_drewN ?_ _ | refine Below.alloc ?_ (by simp) _ | refine Below.setCell ?_ (by simp) _))
  refine (resp_zero (HS.out.after (by repeat (first | exact Below.refl _ _ | assumption | refine Below.drew ?_ | refine below_drewN ?_ _ | refine Below.alloc ?_ (by first | (simp; done) | omega | (simp; omega)) _ | refine Below.setCell ?_ (by first | (simp; done) | omega | (simp; omega)) _))) (by omega)).mono ?_
  rintro e w4 ⟨E0, g0, k0, E1, g1, k1, E2, g2, k2, E3, g3, k3, rfl, h4, h5, h6, h7, hb4⟩
  have b0 : w4.cell? ⟨w3.heap.size, 0, none⟩ = some (.slice C0 l0 d0) := kcell hb4 (by go_simp)
  have b1 : w4.cell? ⟨w3.heap.size, 1, none⟩ = some (.slice C1 l1 d1) := kcell hb4 (by go_simp)
  have b2 : w4.cell? ⟨w3.heap.size, 2, none⟩ = some (.slice C2 l2 d2) := kcell hb4 (by go_simp)
  have hb34 : Below w3.heap.size w3 w4 := seqB hb3a hb4
  replace a0 := kcell hb34 a0
  replace a1 := kcell hb34 a1
  replace a2 := kcell hb34 a2
  have bel4 : Below w.heap.size w w4 := Below.trans bel3 (hb34.mono hz3)
  have hz4 := bel4.size
  have lt34 := World.block_lt_of_cell? w4 ⟨w3.heap.size, 0, none⟩ b0
  simp only at lt34
  clear hb4 hb3a
  go_wp2_with fail
  clear h251
  have hb4a : Below w4.heap.size w4 (w4.alloc (.cells #[.slice E0 g0 k0, .slice E1 g1 k1, .slice E2 g2 k2] 26)) := (by repeat (first | exact Below.refl _ _ | assumption | refine Below.drew ?_ | refine below_drewN ?_ _ | refine Below.alloc ?_ (by simp) _ | refine Below.setCell ?_ (by simp) _))
  refine (req_251 (HS.out.after (by repeat (first | exact Below.refl _ _ | assumption | refine Below.drew ?_ | refine below_drewN ?_ _ | refine Below.alloc ?_ (by first | (simp; done) | omega | (simp; omega)) _ | refine Below.setCell ?_ (by first | (simp; done) | omega | (simp; omega)) _))) (by omega) hf).mono ?_
  rintro e w5 ⟨F0, o0, x0, F1, o1, x1, F2, o2, x2, F3, o3, x3, rfl, i4, i5, i6, i7, hb5⟩
  have c0' : w5.cell? ⟨w4.heap.size, 0, none⟩ = some (.slice E0 g0 k0) := kcell hb5 (by go_simp)
  have c1' : w5.cell? ⟨w4.heap.size, 1, none⟩ = some (.slice E1 g1 k1) := kcell hb5 (by go_simp)
  have c2' : w5.cell? ⟨w4.heap.size, 2, none⟩ = some (.slice E2 g2 k2) := kcell hb5 (by go_simp)
  have hb45 : Below w4.heap.size w4 w5 := seqB hb4a hb5
  replace a0 := kcell hb45 a0
  replace a1 := kcell hb45 a1
  replace a2 := kcell hb45 a2
  replace b0 := kcell hb45 b0
  replace b1 := kcell hb45 b1
  replace b2 := kcell hb45 b2
  have bel5 : Below w.heap.size w w5 := Below.trans bel4 (hb45.mono hz4)
  have hz5 := bel5.size
  have lt45 := World.block_lt_of_cell? w5 ⟨w4.heap.size, 0, none⟩ c0'
  simp only at lt45
  clear hb5 hb4a
  obtain ⟨W, hW⟩ : ∃ W, W = (((w5.alloc (.cells #[.slice F0 o0 x0, .slice F1 o1 x1, .slice F2 o2 x2] 26)).alloc (.cells #[.string ⟨#[]⟩, .slice none 0 0, .slice none 0 0] 38)).drew) := ⟨_, rfl⟩
  have kW : Below w5.heap.size w5 W := by rw [hW]; exact (by repeat (first | exact Below.refl _ _ | assumption | refine Below.drew ?_ | refine below_drewN ?_ _ | refine Below.alloc ?_ (by simp) _ | refine Below.setCell ?_ (by simp) _))
  have y0 : W.cell? ⟨w5.heap.size, 0, none⟩ = some (.slice F0 o0 x0) := by rw [hW]; go_simp
  have y1 : W.cell? ⟨w5.heap.size, 1, none⟩ = some (.slice F1 o1 x1) := by rw [hW]; go_simp
  have y2 : W.cell? ⟨w5.heap.size, 2, none⟩ = some (.slice F2 o2 x2) := by rw [hW]; go_simp
  have z0 : W.cell? ⟨w5.heap.size + 1, 0, none⟩ = some (.string ⟨#[]⟩) := by rw [hW]; go_simp
  have z1 : W.cell? ⟨w5.heap.size + 1, 1, none⟩ = some (.slice none 0 0) := by rw [hW]; go_simp
  have z2 : W.cell? ⟨w5.heap.size + 1, 2, none⟩ = some (.slice none 0 0) := by rw [hW]; go_simp
  have BW := Lib.hid (Below.trans bel5 (kW.mono hz5))
  have D0 := Lib.hid (h0.after (seqB hb23 (seqB hb34 (seqB hb45 kW))))
  have D1 := Lib.hid (h1.after (seqB hb23 (seqB hb34 (seqB hb45 kW))))
  have D2 := Lib.hid (entries_move h2 (seqB hb23 (seqB hb34 (seqB hb45 kW))))
  have D3 := Lib.hid (h3.after (seqB hb23 (seqB hb34 (seqB hb45 kW))))
  have I0 := Lib.hid (i0.after (seqB hb34 (seqB hb45 kW)))
  have I1 := Lib.hid (i1.after (seqB hb34 (seqB hb45 kW)))
  have I2 := Lib.hid (entries_move i2 (seqB hb34 (seqB hb45 kW)))
  have I3 := Lib.hid (i3.after (seqB hb34 (seqB hb45 kW)))
  have G0 := Lib.hid (h4.after (seqB hb45 kW))
  have G1 := Lib.hid (h5.after (seqB hb45 kW))
  have G2 := Lib.hid (entries_move h6 (seqB hb45 kW))
  have G3 := Lib.hid (h7.after (seqB hb45 kW))
  have J0 := Lib.hid (i4.after kW)
  have J1 := Lib.hid (i5.after kW)
  have J2 := Lib.hid (entries_move i6 kW)
  have J3 := Lib.hid (i7.after kW)
  have hcB : ∀ w', Aft W w' → (convert 22 9 (.slice B3 n3 c3)).run Try.prog w' = .ok (.string (str (rrest ra))) w' := fun w' h => conv_sl (D3.out.after h)
  have hcC : ∀ w', Aft W w' → (convert 22 9 (.slice C3 l3 d3)).run Try.prog w' = .ok (.string (str (rrest ra))) w' := fun w' h => conv_sl (I3.out.after h)
  have hn1 : n1 ≤ 1000000 := by have := D1.out.len; have := ca.out.1; omega
  have hn2 : n2 ≤ 1000000 := by have := D2.out.len; have := ca.out.2; omega
  have hl1 : l1 ≤ 1000000 := by have := I1.out.len; have := ca.out.1; omega
  have hl2 : l2 ≤ 1000000 := by have := I2.out.len; have := ca.out.2; omega
  have hg1 : g1 ≤ 1000000 := by have := G1.out.len; simp at this; omega
  have hg2 : g2 ≤ 1000000 := by have := G2.out.len; simp at this; omega
  have ho1 : o1 ≤ 1000000 := by have := J1.out.len; simp at this; omega
  have ho2 : o2 ≤ 1000000 := by have := J2.out.len; simp at this; omega
  have ea0 := Aft.each (kcell kW a0)
  have ea1 := Aft.each (kcell kW a1)
  have ea2 := Aft.each (kcell kW a2)
  have eb0 := Aft.each (kcell kW b0)
  have eb1 := Aft.each (kcell kW b1)
  have eb2 := Aft.each (kcell kW b2)
  have C0 := Lib.hid (kcell kW c0')
  have C1 := Lib.hid (kcell kW c1')
  have C2 := Lib.hid (kcell kW c2')
  have Y0 := Lib.hid y0
  have Y1 := Lib.hid y1
  have Y2 := Lib.hid y2
  have Z0 := Lib.hid z0
  have Z1 := Lib.hid z1
  have Z2 := Lib.hid z2
  clear h0 h1 h2 h3 h4 h5 h6 h7 i0 i1 i2 i3 i4 i5 i6 i7 a0 a1 a2 b0 b1 b2 c0' c1' c2' y0 y1 y2 z0 z1 z2
  go_wp2_with fail
  subst hW
  refine reg_start (by kernel_rfl) ?_
  (refine reg_take 0 (v := ?_) (by rfl) (by kernel_rfl) (by kernel_rfl) (by kernel_rfl) (by exact fun _ _ _ h => h) (by rfl) ?_ ?_; rotate_left; focus (intro w hSw; go_simp; try with_reducible rfl))
  simp only [Act.put, List.setIfInBounds_toArray, List.set_cons_zero, List.set_cons_succ]
  (refine reg_take 1 (v := ?_) (by rfl) (by kernel_rfl) (by kernel_rfl) (by kernel_rfl) (by exact fun _ _ _ h => h) (by rfl) ?_ ?_; rotate_left; focus (intro w hSw; go_simp; try with_reducible rfl))
  simp only [Act.put, List.setIfInBounds_toArray, List.set_cons_zero, List.set_cons_succ]
  (refine reg_take 2 (v := ?_) (by rfl) (by kernel_rfl) (by kernel_rfl) (by kernel_rfl) (by exact fun _ _ _ h => h) (by rfl) ?_ ?_; rotate_left; focus (intro w hSw; go_simp; try with_reducible rfl))
  simp only [Act.put, List.setIfInBounds_toArray, List.set_cons_zero, List.set_cons_succ]
  (refine reg_take 3 (v := ?_) (by rfl) (by kernel_rfl) (by kernel_rfl) (by kernel_rfl) (by exact fun _ _ _ h => h) (by rfl) ?_ ?_; rotate_left; focus (intro w hSw; go_simp; try with_reducible rfl))
  simp only [Act.put, List.setIfInBounds_toArray, List.set_cons_zero, List.set_cons_succ]
  first | (refine reg_skip 4 (by rfl) (by kernel_rfl) (by kernel_rfl) (by kernel_rfl) (by exact fun _ _ _ h => h) (by rfl) ?_) | (refine reg_take 4 (v := ?_) (by rfl) (by kernel_rfl) (by kernel_rfl) (by kernel_rfl) (by exact fun _ _ _ h => h) (by rfl) ?_ ?_; rotate_left; focus (intro w hSw; go_simp; try with_reducible rfl))
  simp only [Act.put, List.setIfInBounds_toArray, List.set_cons_zero, List.set_cons_succ]
  first | (refine reg_skip 5 (by rfl) (by kernel_rfl) (by kernel_rfl) (by kernel_rfl) (by exact fun _ _ _ h => h) (by rfl) ?_) | (refine reg_take 5 (v := ?_) (by rfl) (by kernel_rfl) (by kernel_rfl) (by kernel_rfl) (by exact fun _ _ _ h => h) (by rfl) ?_ ?_; rotate_left; focus (intro w hSw; go_simp; try with_reducible rfl))
  simp only [Act.put, List.setIfInBounds_toArray, List.set_cons_zero, List.set_cons_succ]
  first | (refine reg_skip 6 (by rfl) (by kernel_rfl) (by kernel_rfl) (by kernel_rfl) (by exact fun _ _ _ h => h) (by rfl) ?_) | (refine reg_take 6 (v := ?_) (by rfl) (by kernel_rfl) (by kernel_rfl) (by kernel_rfl) (by exact fun _ _ _ h => h) (by rfl) ?_ ?_; rotate_left; focus (intro w hSw; go_simp; try with_reducible rfl))
  simp only [Act.put, List.setIfInBounds_toArray, List.set_cons_zero, List.set_cons_succ]
  first | (refine reg_skip 7 (by rfl) (by kernel_rfl) (by kernel_rfl) (by kernel_rfl) (by exact fun _ _ _ h => h) (by rfl) ?_) | (refine reg_take 7 (v := ?_) (by rfl) (by kernel_rfl) (by kernel_rfl) (by kernel_rfl) (by exact fun _ _ _ h => h) (by rfl) ?_ ?_; rotate_left; focus (intro w hSw; go_simp; try with_reducible rfl))
  simp only [Act.put, List.setIfInBounds_toArray, List.set_cons_zero, List.set_cons_succ]
  first | (refine reg_skip 8 (by rfl) (by kernel_rfl) (by kernel_rfl) (by kernel_rfl) (by exact fun _ _ _ h => h) (by rfl) ?_) | (refine reg_take 8 (v := ?_) (by rfl) (by kernel_rfl) (by kernel_rfl) (by kernel_rfl) (by exact fun _ _ _ h => h) (by rfl) ?_ ?_; rotate_left; focus (intro w hSw; go_simp; try with_reducible rfl))
  simp only [Act.put, List.setIfInBounds_toArray, List.set_cons_zero, List.set_cons_succ]
  (refine reg_take 9 (v := ?_) (by rfl) (by kernel_rfl) (by kernel_rfl) (by kernel_rfl) (by exact fun _ _ _ h => h) (by rfl) ?_ ?_; rotate_left; focus (intro w hSw; go_simp; try with_reducible rfl))
  simp only [Act.put, List.setIfInBounds_toArray, List.set_cons_zero, List.set_cons_succ]
  (refine reg_take 10 (v := ?_) (by rfl) (by kernel_rfl) (by kernel_rfl) (by kernel_rfl) (by exact fun _ _ _ h => h) (by rfl) ?_ ?_; rotate_left; focus (intro w hSw; go_simp; try with_reducible rfl))
  simp only [Act.put, List.setIfInBounds_toArray, List.set_cons_zero, List.set_cons_succ]
  first | (refine reg_skip 11 (by rfl) (by kernel_rfl) (by kernel_rfl) (by kernel_rfl) (by exact fun _ _ _ h => h) (by rfl) ?_) | (refine reg_take 11 (v := ?_) (by rfl) (by kernel_rfl) (by kernel_rfl) (by kernel_rfl) (by exact fun _ _ _ h => h) (by rfl) ?_ ?_; rotate_left; focus (intro w hSw; go_simp; try with_reducible rfl))
  simp only [Act.put, List.setIfInBounds_toArray, List.set_cons_zero, List.set_cons_succ]
  first | (refine reg_skip 13 (by rfl) (by kernel_rfl) (by kernel_rfl) (by kernel_rfl) (by exact fun _ _ _ h => h) (by rfl) ?_) | (refine reg_take 13 (v := ?_) (by rfl) (by kernel_rfl) (by kernel_rfl) (by kernel_rfl) (by exact fun _ _ _ h => h) (by rfl) ?_ ?_; rotate_left; focus (intro w hSw; go_simp; try with_reducible rfl))
  simp only [Act.put, List.setIfInBounds_toArray, List.set_cons_zero, List.set_cons_succ]
  refine reg_call 12 (by kernel_rfl) (by rfl) (fun K hK => ?_)
  go_simp
  go_at_call 10; refine (prefixOf_any (p := rval Pre.none ra) D0.out D1.out D2.out hn1 hn2).mono ?_; rintro e w6 ⟨X1, v1, t1, X2, v2, t2, rfl, j1, j2, hb6⟩
  refine hK.out _ _ (hb6) ?_
  clear hK K
  try simp only [Act.put, List.setIfInBounds_toArray, List.set_cons_zero, List.set_cons_succ]
  refine reg_call 14 (by kernel_rfl) (by rfl) (fun K hK => ?_)
  go_simp
  go_at_call 10; refine (prefixOf_any (p := rval Pre.none ra) (I0.out.after hb6) (I1.out.after hb6) (entries_move I2.out hb6) hl1 hl2).mono ?_; rintro e w7 ⟨X3, v3, t3, X4, v4, t4, rfl, j3, j4, hb7⟩
  refine hK.out _ _ (hb7) ?_
  clear hK K
  try simp only [Act.put, List.setIfInBounds_toArray, List.set_cons_zero, List.set_cons_succ]
  refine reg_call 15 (by kernel_rfl) (by rfl) (fun K hK => ?_)
  go_simp
  go_at_call 12; refine (same7_any (j1.after hb7) (j2.after hb7) j3 j4).mono ?_; rintro e w8 ⟨rfl, hb8⟩; have k8 := seqB hb6 (seqB hb7 hb8); have hcE : ∀ w', Aft w8 w' → (convert 22 9 (.slice E3 g3 k3)).run Try.prog w' = .ok (.string (str bs)) w' := fun w' h => conv_sl ((G3.out.after k8).after h); have hcF : ∀ w', Aft w8 w' → (convert 22 9 (.slice F3 o3 x3)).run Try.prog w' = .ok (.string (str bs)) w' := fun w' h => conv_sl ((J3.out.after k8).after h); have hcA : ∀ w', Aft w8 w' → (convert 22 9 (.slice A m c)).run Try.prog w' = .ok (.string (str bs)) w' := fun w' h => conv_sl (((HS.out.after BW.out).after k8).after h); have ec0 := Aft.each (kcell k8 C0.out); have ec1 := Aft.each (kcell k8 C1.out); have ec2 := Aft.each (kcell k8 C2.out); have ez0 := Aft.each (kcell k8 Z0.out); have ez1 := Aft.each (kcell k8 Z1.out); have ez2 := Aft.each (kcell k8 Z2.out)
  refine hK.out _ _ (hb8) ?_
  clear hK K
  try simp only [Act.put, List.setIfInBounds_toArray, List.set_cons_zero, List.set_cons_succ]
  (refine reg_take 16 (v := ?_) (by rfl) (by kernel_rfl) (by kernel_rfl) (by kernel_rfl) (by exact fun _ _ _ h => h) (by rfl) ?_ ?_; rotate_left; focus (intro w hSw; go_simp; try with_reducible rfl))
  simp only [Act.put, List.setIfInBounds_toArray, List.set_cons_zero, List.set_cons_succ]
  (refine reg_take 17 (v := ?_) (by rfl) (by kernel_rfl) (by kernel_rfl) (by kernel_rfl) (by exact fun _ _ _ h => h) (by rfl) ?_ ?_; rotate_left; focus (intro w hSw; go_simp; try with_reducible rfl))
  simp only [Act.put, List.setIfInBounds_toArray, List.set_cons_zero, List.set_cons_succ]
  first | (refine reg_skip 18 (by rfl) (by kernel_rfl) (by kernel_rfl) (by kernel_rfl) (by exact fun _ _ _ h => h) (by rfl) ?_) | (refine reg_take 18 (v := ?_) (by rfl) (by kernel_rfl) (by kernel_rfl) (by kernel_rfl) (by exact fun _ _ _ h => h) (by rfl) ?_ ?_; rotate_left; focus (intro w hSw; go_simp; try with_reducible rfl))
  simp only [Act.put, List.setIfInBounds_toArray, List.set_cons_zero, List.set_cons_succ]
  first | (refine reg_skip 19 (by rfl) (by kernel_rfl) (by kernel_rfl) (by kernel_rfl) (by exact fun _ _ _ h => h) (by rfl) ?_) | (refine reg_take 19 (v := ?_) (by rfl) (by kernel_rfl) (by kernel_rfl) (by kernel_rfl) (by exact fun _ _ _ h => h) (by rfl) ?_ ?_; rotate_left; focus (intro w hSw; go_simp; try with_reducible rfl))
  simp only [Act.put, List.setIfInBounds_toArray, List.set_cons_zero, List.set_cons_succ]
  (refine reg_take 20 (v := ?_) (by rfl) (by kernel_rfl) (by kernel_rfl) (by kernel_rfl) (by exact fun _ _ _ h => h) (by rfl) ?_ ?_; rotate_left; focus (intro w hSw; go_simp; try with_reducible rfl))
  simp only [Act.put, List.setIfInBounds_toArray, List.set_cons_zero, List.set_cons_succ]
  (refine reg_take 21 (v := ?_) (by rfl) (by kernel_rfl) (by kernel_rfl) (by kernel_rfl) (by exact fun _ _ _ h => h) (by rfl) ?_ ?_; rotate_left; focus (intro w hSw; go_simp; try with_reducible rfl))
  simp only [Act.put, List.setIfInBounds_toArray, List.set_cons_zero, List.set_cons_succ]
  first | (refine reg_skip 22 (by rfl) (by kernel_rfl) (by kernel_rfl) (by kernel_rfl) (by exact fun _ _ _ h => h) (by rfl) ?_) | (refine reg_take 22 (v := ?_) (by rfl) (by kernel_rfl) (by kernel_rfl) (by kernel_rfl) (by exact fun _ _ _ h => h) (by rfl) ?_ ?_; rotate_left; focus (intro w hSw; go_simp; try with_reducible rfl))
  simp only [Act.put, List.setIfInBounds_toArray, List.set_cons_zero, List.set_cons_succ]
  first | (refine reg_skip 23 (by rfl) (by kernel_rfl) (by kernel_rfl) (by kernel_rfl) (by exact fun _ _ _ h => h) (by rfl) ?_) | (refine reg_take 23 (v := ?_) (by rfl) (by kernel_rfl) (by kernel_rfl) (by kernel_rfl) (by exact fun _ _ _ h => h) (by rfl) ?_ ?_; rotate_left; focus (intro w hSw; go_simp; try with_reducible rfl))
  simp only [Act.put, List.setIfInBounds_toArray, List.set_cons_zero, List.set_cons_succ]
  (refine reg_take 24 (v := ?_) (by rfl) (by kernel_rfl) (by kernel_rfl) (by kernel_rfl) (by exact fun _ _ _ h => h) (by rfl) ?_ ?_; rotate_left; focus (intro w hSw; go_simp; try with_reducible rfl))
  simp only [Act.put, List.setIfInBounds_toArray, List.set_cons_zero, List.set_cons_succ]
  (refine reg_take 25 (v := ?_) (by rfl) (by kernel_rfl) (by kernel_rfl) (by kernel_rfl) (by exact fun _ _ _ h => h) (by rfl) ?_ ?_; rotate_left; focus (intro w hSw; go_simp; try with_reducible rfl))
  simp only [Act.put, List.setIfInBounds_toArray, List.set_cons_zero, List.set_cons_succ]
  first | (refine reg_skip 26 (by rfl) (by kernel_rfl) (by kernel_rfl) (by kernel_rfl) (by exact fun _ _ _ h => h) (by rfl) ?_) | (refine reg_take 26 (v := ?_) (by rfl) (by kernel_rfl) (by kernel_rfl) (by kernel_rfl) (by exact fun _ _ _ h => h) (by rfl) ?_ ?_; rotate_left; focus (intro w hSw; go_simp; try with_reducible rfl))
  simp only [Act.put, List.setIfInBounds_toArray, List.set_cons_zero, List.set_cons_succ]
  first | (refine reg_skip 27 (by rfl) (by kernel_rfl) (by kernel_rfl) (by kernel_rfl) (by exact fun _ _ _ h => h) (by rfl) ?_) | (refine reg_take 27 (v := ?_) (by rfl) (by kernel_rfl) (by kernel_rfl) (by kernel_rfl) (by exact fun _ _ _ h => h) (by rfl) ?_ ?_; rotate_left; focus (intro w hSw; go_simp; try with_reducible rfl))
  simp only [Act.put, List.setIfInBounds_toArray, List.set_cons_zero, List.set_cons_succ]
  first | (refine reg_skip 28 (by rfl) (by kernel_rfl) (by kernel_rfl) (by kernel_rfl) (by exact fun _ _ _ h => h) (by rfl) ?_) | (refine reg_take 28 (v := ?_) (by rfl) (by kernel_rfl) (by kernel_rfl) (by kernel_rfl) (by exact fun _ _ _ h => h) (by rfl) ?_ ?_; rotate_left; focus (intro w hSw; go_simp; try with_reducible rfl))
  simp only [Act.put, List.setIfInBounds_toArray, List.set_cons_zero, List.set_cons_succ]
  first | (refine reg_skip 29 (by rfl) (by kernel_rfl) (by kernel_rfl) (by kernel_rfl) (by exact fun _ _ _ h => h) (by rfl) ?_) | (refine reg_take 29 (v := ?_) (by rfl) (by kernel_rfl) (by kernel_rfl) (by kernel_rfl) (by exact fun _ _ _ h => h) (by rfl) ?_ ?_; rotate_left; focus (intro w hSw; go_simp; try with_reducible rfl))
  simp only [Act.put, List.setIfInBounds_toArray, List.set_cons_zero, List.set_cons_succ]
  first | (refine reg_skip 30 (by rfl) (by kernel_rfl) (by kernel_rfl) (by kernel_rfl) (by exact fun _ _ _ h => h) (by rfl) ?_) | (refine reg_take 30 (v := ?_) (by rfl) (by kernel_rfl) (by kernel_rfl) (by kernel_rfl) (by exact fun _ _ _ h => h) (by rfl) ?_ ?_; rotate_left; focus (intro w hSw; go_simp; try with_reducible rfl))
  simp only [Act.put, List.setIfInBounds_toArray, List.set_cons_zero, List.set_cons_succ]
  (refine reg_take 31 (v := ?_) (by rfl) (by kernel_rfl) (by kernel_rfl) (by kernel_rfl) (by exact fun _ _ _ h => h) (by rfl) ?_ ?_; rotate_left; focus (intro w hSw; go_simp; try with_reducible rfl))
  simp only [Act.put, List.setIfInBounds_toArray, List.set_cons_zero, List.set_cons_succ]
  (refine reg_take 32 (v := ?_) (by rfl) (by kernel_rfl) (by kernel_rfl) (by kernel_rfl) (by exact fun _ _ _ h => h) (by rfl) ?_ ?_; rotate_left; focus (intro w hSw; go_simp; try with_reducible rfl))
  simp only [Act.put, List.setIfInBounds_toArray, List.set_cons_zero, List.set_cons_succ]
  first | (refine reg_skip 33 (by rfl) (by kernel_rfl) (by kernel_rfl) (by kernel_rfl) (by exact fun _ _ _ h => h) (by rfl) ?_) | (refine reg_take 33 (v := ?_) (by rfl) (by kernel_rfl) (by kernel_rfl) (by kernel_rfl) (by exact fun _ _ _ h => h) (by rfl) ?_ ?_; rotate_left; focus (intro w hSw; go_simp; try with_reducible rfl))
  simp only [Act.put, List.setIfInBounds_toArray, List.set_cons_zero, List.set_cons_succ]
  first | (refine reg_skip 34 (by rfl) (by kernel_rfl) (by kernel_rfl) (by kernel_rfl) (by exact fun _ _ _ h => h) (by rfl) ?_) | (refine reg_take 34 (v := ?_) (by rfl) (by kernel_rfl) (by kernel_rfl) (by kernel_rfl) (by exact fun _ _ _ h => h) (by rfl) ?_ ?_; rotate_left; focus (intro w hSw; go_simp; try with_reducible rfl))
  simp only [Act.put, List.setIfInBounds_toArray, List.set_cons_zero, List.set_cons_succ]
  first | (refine reg_skip 35 (by rfl) (by kernel_rfl) (by kernel_rfl) (by kernel_rfl) (by exact fun _ _ _ h => h) (by rfl) ?_) | (refine reg_take 35 (v := ?_) (by rfl) (by kernel_rfl) (by kernel_rfl) (by kernel_rfl) (by exact fun _ _ _ h => h) (by rfl) ?_ ?_; rotate_left; focus (intro w hSw; go_simp; try with_reducible rfl))
  simp only [Act.put, List.setIfInBounds_toArray, List.set_cons_zero, List.set_cons_succ]
  first | (refine reg_skip 36 (by rfl) (by kernel_rfl) (by kernel_rfl) (by kernel_rfl) (by exact fun _ _ _ h => h) (by rfl) ?_) | (refine reg_take 36 (v := ?_) (by rfl) (by kernel_rfl) (by kernel_rfl) (by kernel_rfl) (by exact fun _ _ _ h => h) (by rfl) ?_ ?_; rotate_left; focus (intro w hSw; go_simp; try with_reducible rfl))
  simp only [Act.put, List.setIfInBounds_toArray, List.set_cons_zero, List.set_cons_succ]
  first | (refine reg_skip 37 (by rfl) (by kernel_rfl) (by kernel_rfl) (by kernel_rfl) (by exact fun _ _ _ h => h) (by rfl) ?_) | (refine reg_take 37 (v := ?_) (by rfl) (by kernel_rfl) (by kernel_rfl) (by kernel_rfl) (by exact fun _ _ _ h => h) (by rfl) ?_ ?_; rotate_left; focus (intro w hSw; go_simp; try with_reducible rfl))
  simp only [Act.put, List.setIfInBounds_toArray, List.set_cons_zero, List.set_cons_succ]
  (refine reg_take 38 (v := ?_) (by rfl) (by kernel_rfl) (by kernel_rfl) (by kernel_rfl) (by exact fun _ _ _ h => h) (by rfl) ?_ ?_; rotate_left; focus (intro w hSw; go_simp; try with_reducible rfl))
  simp only [Act.put, List.setIfInBounds_toArray, List.set_cons_zero, List.set_cons_succ]
  (refine reg_take 39 (v := ?_) (by rfl) (by kernel_rfl) (by kernel_rfl) (by kernel_rfl) (by exact fun _ _ _ h => h) (by rfl) ?_ ?_; rotate_left; focus (intro w hSw; go_simp; try with_reducible rfl))
  simp only [Act.put, List.setIfInBounds_toArray, List.set_cons_zero, List.set_cons_succ]
  first | (refine reg_skip 40 (by rfl) (by kernel_rfl) (by kernel_rfl) (by kernel_rfl) (by exact fun _ _ _ h => h) (by rfl) ?_) | (refine reg_take 40 (v := ?_) (by rfl) (by kernel_rfl) (by kernel_rfl) (by kernel_rfl) (by exact fun _ _ _ h => h) (by rfl) ?_ ?_; rotate_left; focus (intro w hSw; go_simp; try with_reducible rfl))
  simp only [Act.put, List.setIfInBounds_toArray, List.set_cons_zero, List.set_cons_succ]
  first | (refine reg_skip 42 (by rfl) (by kernel_rfl) (by kernel_rfl) (by kernel_rfl) (by exact fun _ _ _ h => h) (by rfl) ?_) | (refine reg_take 42 (v := ?_) (by rfl) (by kernel_rfl) (by kernel_rfl) (by kernel_rfl) (by exact fun _ _ _ h => h) (by rfl) ?_ ?_; rotate_left; focus (intro w hSw; go_simp; try with_reducible rfl))
  simp only [Act.put, List.setIfInBounds_toArray, List.set_cons_zero, List.set_cons_succ]
  refine reg_call 41 (by kernel_rfl) (by rfl) (fun K hK => ?_)
  go_simp
  go_at_call 10; refine (prefixOf_any (p := Pre.none) (G0.out.after k8) (G1.out.after k8) (entries_move G2.out k8) hg1 hg2).mono ?_; rintro e w9 ⟨X5, v5, t5, X6, v6, t6, rfl, j5, j6, hb9⟩
  refine hK.out _ _ (hb9) ?_
  clear hK K
  try simp only [Act.put, List.setIfInBounds_toArray, List.set_cons_zero, List.set_cons_succ]
  refine reg_call 43 (by kernel_rfl) (by rfl) (fun K hK => ?_)
  go_simp
  go_at_call 12; refine (same7_any (t := []) j5 j6 (IT.nil (base := 0)) (IT.nil (base := 0))).mono ?_; rintro e w10 ⟨rfl, hb10⟩; have k10 := seqB k8 (seqB hb9 hb10); have ey0 := Aft.each (kcell k10 Y0.out); have ey1 := Aft.each (kcell k10 Y1.out); have ey2 := Aft.each (kcell k10 Y2.out); have ez0 := Aft.each (kcell k10 Z0.out); have ez1 := Aft.each (kcell k10 Z1.out); have ez2 := Aft.each (kcell k10 Z2.out)
  refine hK.out _ _ (hb10) ?_
  clear hK K
  try simp only [Act.put, List.setIfInBounds_toArray, List.set_cons_zero, List.set_cons_succ]
  (refine reg_take 44 (v := ?_) (by rfl) (by kernel_rfl) (by kernel_rfl) (by kernel_rfl) (by exact fun _ _ _ h => h) (by rfl) ?_ ?_; rotate_left; focus (intro w hSw; go_simp; try with_reducible rfl))
  simp only [Act.put, List.setIfInBounds_toArray, List.set_cons_zero, List.set_cons_succ]
  (refine reg_take 45 (v := ?_) (by rfl) (by kernel_rfl) (by kernel_rfl) (by kernel_rfl) (by exact fun _ _ _ h => h) (by rfl) ?_ ?_; rotate_left; focus (intro w hSw; go_simp; try with_reducible rfl))
  simp only [Act.put, List.setIfInBounds_toArray, List.set_cons_zero, List.set_cons_succ]
  first | (refine reg_skip 46 (by rfl) (by kernel_rfl) (by kernel_rfl) (by kernel_rfl) (by exact fun _ _ _ h => h) (by rfl) ?_) | (refine reg_take 46 (v := ?_) (by rfl) (by kernel_rfl) (by kernel_rfl) (by kernel_rfl) (by exact fun _ _ _ h => h) (by rfl) ?_ ?_; rotate_left; focus (intro w hSw; go_simp; try with_reducible rfl))
  simp only [Act.put, List.setIfInBounds_toArray, List.set_cons_zero, List.set_cons_succ]
  first | (refine reg_skip 48 (by rfl) (by kernel_rfl) (by kernel_rfl) (by kernel_rfl) (by exact fun _ _ _ h => h) (by rfl) ?_) | (refine reg_take 48 (v := ?_) (by rfl) (by kernel_rfl) (by kernel_rfl) (by kernel_rfl) (by exact fun _ _ _ h => h) (by rfl) ?_ ?_; rotate_left; focus (intro w hSw; go_simp; try with_reducible rfl))
  simp only [Act.put, List.setIfInBounds_toArray, List.set_cons_zero, List.set_cons_succ]
  refine reg_call 47 (by kernel_rfl) (by rfl) (fun K hK => ?_)
  go_simp
  go_at_call 10; refine (prefixOf_any (p := Pre.none) (J0.out.after k10) (J1.out.after k10) (entries_move J2.out k10) ho1 ho2).mono ?_; rintro e w11 ⟨X7, v7, t7, X8, v8, t8, rfl, j7, j8, hb11⟩
  refine hK.out _ _ (hb11) ?_
  clear hK K
  try simp only [Act.put, List.setIfInBounds_toArray, List.set_cons_zero, List.set_cons_succ]
  refine reg_call 49 (by kernel_rfl) (by rfl) (fun K hK => ?_)
  go_simp
  go_at_call 12; refine (same7_any (t := []) j7 j8 (IT.nil (base := 0)) (IT.nil (base := 0))).mono ?_; rintro e w12 ⟨rfl, hb12⟩; have k12 := seqB k10 (seqB hb11 hb12)
  refine hK.out _ _ (hb12) ?_
  clear hK K
  try simp only [Act.put, List.setIfInBounds_toArray, List.set_cons_zero, List.set_cons_succ]
  (refine reg_take 50 (v := ?_) (by rfl) (by kernel_rfl) (by kernel_rfl) (by kernel_rfl) (by exact fun _ _ _ h => h) (by rfl) ?_ ?_; rotate_left; focus (intro w hSw; go_simp; try with_reducible rfl))
  simp only [Act.put, List.setIfInBounds_toArray, List.set_cons_zero, List.set_cons_succ]
  (refine reg_take 51 (v := ?_) (by rfl) (by kernel_rfl) (by kernel_rfl) (by kernel_rfl) (by exact fun _ _ _ h => h) (by rfl) ?_ ?_; rotate_left; focus (intro w hSw; go_simp; try with_reducible rfl))
  simp only [Act.put, List.setIfInBounds_toArray, List.set_cons_zero, List.set_cons_succ]
  refine wpAnyH_done (by kernel_rfl) ?_ _
  have bel12 : Below w.heap.size w w12 := Below.trans BW.out (k12.mono BW.out.size)
  go_wp2_with fail
  go_ret
  exact ⟨by simp, bel12⟩

set_option maxHeartbeats 1000000 in
set_option maxRecDepth 100000 in
theorem prefixFlags_any {S : Nat → Prop} {A : Option Addr} {m c f : Nat} {bs : B} {w : World} (hs : Sl S w A m c bs) (hf : f < 256) :
    Calls Try.prog 6 #[.int .u8 (f : Int), .slice A m c] w fun e w' => e = .returned (.bool true) ∧ Below w.heap.size w w' := by
  by_cases h : m ≤ 1000
  · exact prefixFlags_small hs hf h
  · have hc := hs.cap
    have hcm := hs.capMax
    have h2 : 1000 < m := by omega
    clear h hs
    go_enter Try.func6, Try.ntmps6
    go_wp2_with fail
    refine (awake7 _).mono ?_
    rintro e w1 ⟨rfl, hb1⟩
    go_wp2_with fail
    go_ret
    exact ⟨rfl, hb1⟩
end Go.Proofs.Sb
