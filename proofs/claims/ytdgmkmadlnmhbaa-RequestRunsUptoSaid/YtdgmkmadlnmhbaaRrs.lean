/- Walks over signalboxref08.SameValues, sameRun, Same: two requests that read the same are the same. No conditions. -/
import Derived.Test.YtdgmkmadlnmhbaaRrg
import Derived.Test.YtdgmkmadlnmhbaaSame
set_option linter.unusedVariables false
set_option linter.unusedSimpArgs false
namespace Go.Proofs.Sb
open Go.RowKit _root_.Sb
set_option maxHeartbeats 4000000 in
set_option maxRecDepth 100000 in
theorem sameVals8_any {S S' : Nat → Prop} {A A' : Option Addr} {n c n' c' : Nat} {l : List Val} {w : World} (h1 : Arr 2 valRf S w A n c l) (h2 : Arr 2 valRf S' w A' n' c' l) :
    Calls Try.prog 51 #[.slice A n c, .slice A' n' c'] w fun e w' => e = .returned (.bool true) ∧ Below w.heap.size w w' := by
  obtain rfl : n = n' := by rw [h1.len, h2.len]
  have hlen := Lib.hid h1.len
  have hcap := h1.cap
  have hcm := h1.capMax
  have hcap' := h2.cap
  have hcm' := h2.capMax
  have HS := Lib.hid h1; clear h1
  have HS' := Lib.hid h2; clear h2
  go_enter Try.func51, Try.ntmps51
  go_wp2_with fail
  go_loopw [5] (fun i wr => ∃ k : Nat, k ≤ n ∧ i = .int .i64 (k : Nat) ∧ Below w.heap.size w wr) (fun i _ => n - (intOf i).toNat)
  case atStart => exact ⟨0, by omega, rfl, Below.refl _ _⟩
  case round =>
    obtain ⟨k, hk, rfl, hbel⟩ := hrel
    have hsz := hbel.size
    by_cases hlt : k < n
    · obtain ⟨x, hx⟩ : ∃ x, l[k]? = some x := ⟨_, List.getElem?_eq_getElem (by have := hlen.out; omega)⟩
      have HT := Lib.hid (HS.out.after hbel)
      have HT' := Lib.hid (HS'.out.after hbel)
      obtain ⟨b, o, rfl, hSb, hbs, HC⟩ := HT.out.at (by decide) (by omega)
      obtain ⟨v, hv1, ⟨rfl, hx1⟩, hv2⟩ := HC k x hx
      have hc0 := hv2 0 _ rfl
      simp only [Nat.add_zero] at hc0
      have hc1 := hv2 1 _ rfl
      clear hv1 hv2 HC
      obtain ⟨b', o', rfl, hSb', hbs', HC'⟩ := HT'.out.at (by decide) (by omega)
      obtain ⟨v', hv1', ⟨rfl, hy1⟩, hv2'⟩ := HC' k x hx
      have hd0 := hv2' 0 _ rfl
      simp only [Nat.add_zero] at hd0
      have hd1 := hv2' 1 _ rfl
      clear hv1' hv2' HC'
      have HX := Lib.hid hx; clear hx
      go_wp2_with fail
      go_quiet (fail)
      go_wp2_with fail
      refine ⟨⟨k + 1, by omega, by go_num, (by repeat (first | exact Below.refl _ _ | assumption | refine Below.drew ?_ | refine below_drewN ?_ _ | refine Below.alloc ?_ (by simp) _ | refine Below.setCell ?_ (by simp) _))⟩, by simp [intOf]; omega⟩
    · go_wp2_with fail
      go_ret
      exact ⟨rfl, hbel⟩
set_option maxHeartbeats 8000000 in
set_option maxRecDepth 100000 in
theorem sameRun8_any {S S' : Nat → Prop} {w : World} {p : Par} {A1 : Option Addr} {n1 c1 : Nat} {A2 : Option Addr} {n2 c2 : Nat} {B1 : Option Addr} {m1 d1 : Nat} {B2 : Option Addr} {m2 d2 : Nat} (h1 : RunR S w A1 n1 c1 A2 n2 c2 p.values p.names) (h2 : RunR S' w B1 m1 d1 B2 m2 d2 p.values p.names) :
    Calls Try.prog 50 #[.agg (runV p A1 n1 c1 A2 n2 c2).toArray, .agg (runV p B1 m1 d1 B2 m2 d2).toArray] w fun e w' => e = .returned (.bool true) ∧ Below w.heap.size w w' := by
  obtain rfl : n2 = m2 := by rw [h1.names.len, h2.names.len]
  have hlen := Lib.hid h1.names.len
  have hcap := h1.names.cap
  have hcm := h1.names.capMax
  have hcap' := h2.names.cap
  have hcm' := h2.names.capMax
  have HS := Lib.hid h1; clear h1
  have HS' := Lib.hid h2; clear h2
  obtain ⟨cs, values, names, sk, pd, pg, rs, sv, sl, sr, td, tm⟩ := p
  obtain ⟨V1, hV1⟩ : ∃ V1, V1 = runV ⟨cs, values, names, sk, pd, pg, rs, sv, sl, sr, td, tm⟩ A1 n1 c1 A2 n2 c2 := ⟨_, rfl⟩
  obtain ⟨V2, hV2⟩ : ∃ V2, V2 = runV ⟨cs, values, names, sk, pd, pg, rs, sv, sl, sr, td, tm⟩ B1 m1 d1 B2 n2 d2 := ⟨_, rfl⟩
  rw [← hV1, ← hV2]
  have HV1 := Lib.hid hV1; clear hV1
  have HV2 := Lib.hid hV2; clear hV2
  go_enter Try.func50, Try.ntmps50
  go_upto_region 1 with fail
  obtain ⟨w2, hw2⟩ : ∃ w2, w2 = (w.alloc (.cells V1.toArray 45)).alloc (.cells V2.toArray 45) := ⟨_, rfl⟩
  rw [← hw2]
  have hB2 : Below w.heap.size w w2 := by rw [hw2]; exact ((Below.refl _ _).alloc (Nat.le_refl _) _).alloc (by simp) _
  have HBR : Hid (Bx (fun b => b = w.heap.size) w2 w.heap.size V1) := Lib.hid (by
    rw [hw2]
    exact goesBx.after (Bx.alloc w V1.toArray 45 (S := fun b => b = w.heap.size) rfl rfl) ((Below.refl _ _).alloc (Nat.le_refl _) _))
  have HBZ : Hid (Bx (fun b => b = w.heap.size + 1) w2 (w.heap.size + 1) V2) := Lib.hid (by
    rw [hw2]
    exact Bx.alloc (w.alloc _) V2.toArray 45 (S := fun b => b = w.heap.size + 1) (by simp) (by simp))
  have HB2 := Lib.hid hB2; clear hB2 hw2
  have k1 := HBR.out.c 1 _ (show V1[1]? = some (.slice A1 n1 c1) by rw [HV1.out]; rfl)
  have j1 := HBZ.out.c 1 _ (show V2[1]? = some (.slice B1 m1 d1) by rw [HV2.out]; rfl)
  go_wp2_with fail
  refine (sameVals8_any (goesRunR.after HS.out HB2.out).values (goesRunR.after HS'.out HB2.out).values).mono ?_
  rintro e w3 ⟨rfl, hb3⟩
  have HBR3 := Lib.hid (goesBx.after HBR.out hb3)
  have HBZ3 := Lib.hid (goesBx.after HBZ.out hb3)
  have HB3 := Lib.hid (HB2.out.trans (hb3.mono HB2.out.size))
  clear hb3 k1 j1
  have hlt2 : w.heap.size + 1 < w3.heap.size := HBZ3.out.lt
  have hz3 := HB3.out.size
  have k2 := HBR3.out.c 2 _ (show V1[2]? = some (.slice A2 n2 c2) by rw [HV1.out]; rfl)
  have j2 := HBZ3.out.c 2 _ (show V2[2]? = some (.slice B2 n2 d2) by rw [HV2.out]; rfl)
  go_wp2_with fail
  clear k2 j2
  go_loopw [6] (fun i wr => ∃ k : Nat, k ≤ n2 ∧ i = .int .i64 (k : Nat) ∧ Hid (Below w3.heap.size w3 wr)) (fun i _ => n2 - (intOf i).toNat)
  case atStart => exact ⟨0, by omega, rfl, Lib.hid (Below.refl _ _)⟩
  case round =>
    obtain ⟨k, hk, rfl, HBr⟩ := hrel
    have hsz := HBr.out.size
    have HBR4 := Lib.hid (goesBx.after HBR3.out HBr.out)
    have HBZ4 := Lib.hid (goesBx.after HBZ3.out HBr.out)
    have HB4 := Lib.hid (HB3.out.trans (HBr.out.mono hz3))
    have k2 := HBR4.out.c 2 _ (show V1[2]? = some (.slice A2 n2 c2) by rw [HV1.out]; rfl)
    have j2 := HBZ4.out.c 2 _ (show V2[2]? = some (.slice B2 n2 d2) by rw [HV2.out]; rfl)
    by_cases hlt : k < n2
    · obtain ⟨x, hx⟩ : ∃ x, names[k]? = some x := ⟨_, List.getElem?_eq_getElem (by have := hlen.out; (try dsimp only at this); omega)⟩
      obtain ⟨b, o, rfl, hSb, hbs, HC⟩ := (goesRunR.after HS.out HB4.out).names.at (by decide) (by omega)
      obtain ⟨v, hv1, ⟨rfl, hx1⟩, hv2⟩ := HC k x hx
      have hc0 := hv2 0 _ rfl
      simp only [Nat.add_zero, Nat.mul_one] at hc0
      clear hv1 hv2 HC
      obtain ⟨b', o', rfl, hSb', hbs', HC'⟩ := (goesRunR.after HS'.out HB4.out).names.at (by decide) (by omega)
      obtain ⟨v', hv1', ⟨rfl, hy1⟩, hv2'⟩ := HC' k x hx
      have hd0 := hv2' 0 _ rfl
      simp only [Nat.add_zero, Nat.mul_one] at hd0
      clear hv1' hv2' HC'
      have HX := Lib.hid hx; clear hx
      go_wp2_with fail
      go_quiet (fail)
      go_wp2_with fail
      refine ⟨⟨k + 1, by omega, by go_num, Lib.hid (by have := HBr.out; exact (by repeat (first | exact Below.refl _ _ | assumption | refine Below.drew ?_ | refine below_drewN ?_ _ | refine Below.alloc ?_ (by simp) _ | refine Below.setCell ?_ (by simp) _)))⟩, by simp [intOf]; omega⟩
    · have k0 := HBR4.out.c 0 _ (show V1[0]? = some (.int .u16 (cs : Int)) by rw [HV1.out]; rfl)
      have j0 := HBZ4.out.c 0 _ (show V2[0]? = some (.int .u16 (cs : Int)) by rw [HV2.out]; rfl)
      have k3 := HBR4.out.c 3 _ (show V1[3]? = some (.bool sk) by rw [HV1.out]; rfl)
      have j3 := HBZ4.out.c 3 _ (show V2[3]? = some (.bool sk) by rw [HV2.out]; rfl)
      have k4 := HBR4.out.c 4 _ (show V1[4]? = some (.bool pd) by rw [HV1.out]; rfl)
      have j4 := HBZ4.out.c 4 _ (show V2[4]? = some (.bool pd) by rw [HV2.out]; rfl)
      have k5 := HBR4.out.c 5 _ (show V1[5]? = some (.int .i32 pg) by rw [HV1.out]; rfl)
      have j5 := HBZ4.out.c 5 _ (show V2[5]? = some (.int .i32 pg) by rw [HV2.out]; rfl)
      have k6 := HBR4.out.c 6 _ (show V1[6]? = some (.bool rs) by rw [HV1.out]; rfl)
      have j6 := HBZ4.out.c 6 _ (show V2[6]? = some (.bool rs) by rw [HV2.out]; rfl)
      have k7 := HBR4.out.c 7 _ (show V1[7]? = some (.int .i64 sv.kind) by rw [HV1.out]; rfl)
      have j7 := HBZ4.out.c 7 _ (show V2[7]? = some (.int .i64 sv.kind) by rw [HV2.out]; rfl)
      have k8 := HBR4.out.c 8 _ (show V1[8]? = some (.string (str sv.bytes)) by rw [HV1.out]; rfl)
      have j8 := HBZ4.out.c 8 _ (show V2[8]? = some (.string (str sv.bytes)) by rw [HV2.out]; rfl)
      have k9 := HBR4.out.c 9 _ (show V1[9]? = some (.bool sl) by rw [HV1.out]; rfl)
      have j9 := HBZ4.out.c 9 _ (show V2[9]? = some (.bool sl) by rw [HV2.out]; rfl)
      have k10 := HBR4.out.c 10 _ (show V1[10]? = some (.int .u16 (sr : Int)) by rw [HV1.out]; rfl)
      have j10 := HBZ4.out.c 10 _ (show V2[10]? = some (.int .u16 (sr : Int)) by rw [HV2.out]; rfl)
      have k11 := HBR4.out.c 11 _ (show V1[11]? = some (.bool td) by rw [HV1.out]; rfl)
      have j11 := HBZ4.out.c 11 _ (show V2[11]? = some (.bool td) by rw [HV2.out]; rfl)
      have k12 := HBR4.out.c 12 _ (show V1[12]? = some (.int .i64 tm) by rw [HV1.out]; rfl)
      have j12 := HBZ4.out.c 12 _ (show V2[12]? = some (.int .i64 tm) by rw [HV2.out]; rfl)
      go_wp2_with fail
      go_ret
      exact ⟨by simp, HB4.out⟩
set_option maxHeartbeats 8000000 in
set_option maxRecDepth 100000 in
theorem same8_any {S S' : Nat → Prop} {w : World} {q : Rq} {o r1 r2 ev al o' r1' r2' ev' al' : Slc} (h1 : RfR S w q o r1 r2 ev al) (h2 : RfR S' w q o' r1' r2' ev' al') :
    Calls Try.prog 16 #[.agg (rfV q o r1 r2 ev al).toArray, .agg (rfV q o' r1' r2' ev' al').toArray] w fun e w' => e = .returned (.bool true) ∧ Below w.heap.size w w' := by
  obtain ⟨o, on, oc⟩ := o; obtain ⟨r1, r1n, r1c⟩ := r1; obtain ⟨r2, r2n, r2c⟩ := r2; obtain ⟨ev, evn, evc⟩ := ev; obtain ⟨al, aln, alc⟩ := al
  obtain ⟨o', on', oc'⟩ := o'; obtain ⟨r1', r1n', r1c'⟩ := r1'; obtain ⟨r2', r2n', r2c'⟩ := r2'; obtain ⟨ev', evn', evc'⟩ := ev'; obtain ⟨al', aln', alc'⟩ := al'
  obtain rfl : aln = aln' := by have a1 := h1.all.len; have a2 := h2.all.len; (try dsimp only at a1 a2); rw [a1, a2]
  have hlen := Lib.hid h1.all.len
  have hcap := h1.all.cap
  have hcm := h1.all.capMax
  have hcap' := h2.all.cap
  have hcm' := h2.all.capMax
  try dsimp only at hcap hcm hcap' hcm'
  have HS := Lib.hid h1; clear h1
  have HS' := Lib.hid h2; clear h2
  obtain ⟨op, opts, tx, idn, run, evs, tok, kd, all⟩ := q
  obtain ⟨V1, hV1⟩ : ∃ V1, V1 = rfV ⟨op, opts, tx, idn, run, evs, tok, kd, all⟩ ⟨o, on, oc⟩ ⟨r1, r1n, r1c⟩ ⟨r2, r2n, r2c⟩ ⟨ev, evn, evc⟩ ⟨al, aln, alc⟩ := ⟨_, rfl⟩
  obtain ⟨V2, hV2⟩ : ∃ V2, V2 = rfV ⟨op, opts, tx, idn, run, evs, tok, kd, all⟩ ⟨o', on', oc'⟩ ⟨r1', r1n', r1c'⟩ ⟨r2', r2n', r2c'⟩ ⟨ev', evn', evc'⟩ ⟨al', aln, alc'⟩ := ⟨_, rfl⟩
  rw [← hV1, ← hV2]
  have HV1 := Lib.hid hV1; clear hV1
  have HV2 := Lib.hid hV2; clear hV2
  go_enter Try.func16, Try.ntmps16
  go_upto_region 1 with fail
  obtain ⟨w2, hw2⟩ : ∃ w2, w2 = (w.alloc (.cells V1.toArray 48)).alloc (.cells V2.toArray 48) := ⟨_, rfl⟩
  rw [← hw2]
  have hB2 : Below w.heap.size w w2 := by rw [hw2]; exact ((Below.refl _ _).alloc (Nat.le_refl _) _).alloc (by simp) _
  have HBR : Hid (Bx (fun b => b = w.heap.size) w2 w.heap.size V1) := Lib.hid (by
    rw [hw2]
    exact goesBx.after (Bx.alloc w V1.toArray 48 (S := fun b => b = w.heap.size) rfl rfl) ((Below.refl _ _).alloc (Nat.le_refl _) _))
  have HBZ : Hid (Bx (fun b => b = w.heap.size + 1) w2 (w.heap.size + 1) V2) := Lib.hid (by
    rw [hw2]
    exact Bx.alloc (w.alloc _) V2.toArray 48 (S := fun b => b = w.heap.size + 1) (by simp) (by simp))
  have HB2 := Lib.hid hB2; clear hB2 hw2
  have k1 := HBR.out.c 1 _ (show V1[1]? = some (.slice o on oc) by rw [HV1.out]; rfl)
  have j1 := HBZ.out.c 1 _ (show V2[1]? = some (.slice o' on' oc') by rw [HV2.out]; rfl)
  go_wp2_with fail
  refine (same_any (goesRf.after HS.out HB2.out).options (goesRf.after HS'.out HB2.out).options).mono ?_
  rintro e w3 ⟨rfl, hb3⟩
  have HBR3 := Lib.hid (goesBx.after HBR.out hb3)
  have HBZ3 := Lib.hid (goesBx.after HBZ.out hb3)
  have HB3 := Lib.hid (HB2.out.trans (hb3.mono HB2.out.size))
  clear hb3 k1 j1
  have k17 := HBR3.out.c 17 _ (show V1[17]? = some (.slice ev evn evc) by rw [HV1.out]; rfl)
  have j17 := HBZ3.out.c 17 _ (show V2[17]? = some (.slice ev' evn' evc') by rw [HV2.out]; rfl)
  go_wp2_with fail
  refine (same_any (goesRf.after HS.out HB3.out).events (goesRf.after HS'.out HB3.out).events).mono ?_
  rintro e w4 ⟨rfl, hb4⟩
  have HBR4 := Lib.hid (goesBx.after HBR3.out hb4)
  have HBZ4 := Lib.hid (goesBx.after HBZ3.out hb4)
  have HB4 := Lib.hid (HB3.out.trans (hb4.mono HB3.out.size))
  clear hb4 k17 j17
  go_upto_region 4 with (first | (refine wpList_load_mid (by rfl) 45 _ (by rfl) w.heap.size 4 (by rfl) (runV run r1 r1n r1c r2 r2n r2c) _ (HBR4.out.range_at (by rw [HV1.out]; rfl)) Try.underlying45 rfl (by kernel_rfl) ?_) | (refine wpList_load_mid (by rfl) 45 _ (by rfl) (w.heap.size + 1) 4 (by rfl) (runV run r1' r1n' r1c' r2' r2n' r2c') _ (HBZ4.out.range_at (by rw [HV2.out]; rfl)) Try.underlying45 rfl (by kernel_rfl) ?_) | (go_at_call 50; refine (sameRun8_any (p := run) (goesRf.after HS.out HB4.out).run (goesRf.after HS'.out HB4.out).run).mono ?_; rintro e w5 ⟨rfl, hb5⟩; have HBR5 := Lib.hid (goesBx.after HBR4.out hb5); have HBZ5 := Lib.hid (goesBx.after HBZ4.out hb5); have HB5 := Lib.hid (HB4.out.trans (hb5.mono HB4.out.size)); clear hb5))
  have k0 := HBR5.out.c 0 _ (show V1[0]? = some (.int .u8 (op : Int)) by rw [HV1.out]; rfl)
  have j0 := HBZ5.out.c 0 _ (show V2[0]? = some (.int .u8 (op : Int)) by rw [HV2.out]; rfl)
  have k2 := HBR5.out.c 2 _ (show V1[2]? = some (.string (str tx)) by rw [HV1.out]; rfl)
  have j2 := HBZ5.out.c 2 _ (show V2[2]? = some (.string (str tx)) by rw [HV2.out]; rfl)
  have k3 := HBR5.out.c 3 _ (show V1[3]? = some (.string (str idn)) by rw [HV1.out]; rfl)
  have j3 := HBZ5.out.c 3 _ (show V2[3]? = some (.string (str idn)) by rw [HV2.out]; rfl)
  have k18 := HBR5.out.c 18 _ (show V1[18]? = some (.int .i64 tok.kind) by rw [HV1.out]; rfl)
  have j18 := HBZ5.out.c 18 _ (show V2[18]? = some (.int .i64 tok.kind) by rw [HV2.out]; rfl)
  have k19 := HBR5.out.c 19 _ (show V1[19]? = some (.string (str tok.bytes)) by rw [HV1.out]; rfl)
  have j19 := HBZ5.out.c 19 _ (show V2[19]? = some (.string (str tok.bytes)) by rw [HV2.out]; rfl)
  have k20 := HBR5.out.c 20 _ (show V1[20]? = some (.int .u8 (kd : Int)) by rw [HV1.out]; rfl)
  have j20 := HBZ5.out.c 20 _ (show V2[20]? = some (.int .u8 (kd : Int)) by rw [HV2.out]; rfl)
  have k21 := HBR5.out.c 21 _ (show V1[21]? = some (.slice al aln alc) by rw [HV1.out]; rfl)
  have j21 := HBZ5.out.c 21 _ (show V2[21]? = some (.slice al' aln alc') by rw [HV2.out]; rfl)
  have hlt2 : w.heap.size + 1 < w5.heap.size := HBZ5.out.lt
  have hz5 := HB5.out.size
  go_wp2_with fail
  clear k0 k2 k3 k18 k19 k20 k21 j0 j2 j3 j18 j19 j20 j21
  go_loopw [8] (fun i wr => ∃ k : Nat, k ≤ aln ∧ i = .int .i64 (k : Nat) ∧ Hid (Below w5.heap.size w5 wr)) (fun i _ => aln - (intOf i).toNat)
  case atStart => exact ⟨0, by omega, rfl, Lib.hid (Below.refl _ _)⟩
  case round =>
    obtain ⟨k, hk, rfl, HBr⟩ := hrel
    have hsz := HBr.out.size
    have HBR6 := Lib.hid (goesBx.after HBR5.out HBr.out)
    have HBZ6 := Lib.hid (goesBx.after HBZ5.out HBr.out)
    have HB6 := Lib.hid (HB5.out.trans (HBr.out.mono hz5))
    have k21 := HBR6.out.c 21 _ (show V1[21]? = some (.slice al aln alc) by rw [HV1.out]; rfl)
    have j21 := HBZ6.out.c 21 _ (show V2[21]? = some (.slice al' aln alc') by rw [HV2.out]; rfl)
    by_cases hlt : k < aln
    · obtain ⟨x, hx⟩ : ∃ x, all[k]? = some x := ⟨_, List.getElem?_eq_getElem (by have := hlen.out; omega)⟩
      obtain ⟨b, ob, rfl, hSb, hbs, HC⟩ := (goesRf.after HS.out HB6.out).all.at (by decide) (by dsimp only; omega)
      obtain ⟨v, hv1, ⟨a9, n9, c9, rfl, hx1, hx2, hx3⟩, hv2⟩ := HC k x hx
      have hc0 := hv2 0 _ rfl
      simp only [Nat.add_zero] at hc0
      have hc1 := hv2 1 _ rfl
      have hc2 := hv2 2 _ rfl
      have hc3 := hv2 3 _ rfl
      clear hv1 hv2 HC
      obtain ⟨b', ob', rfl, hSb', hbs', HC'⟩ := (goesRf.after HS'.out HB6.out).all.at (by decide) (by dsimp only; omega)
      obtain ⟨v', hv1', ⟨a8, n8, c8, rfl, hy1, hy2, hy3⟩, hv2'⟩ := HC' k x hx
      have hd0 := hv2' 0 _ rfl
      simp only [Nat.add_zero] at hd0
      have hd1 := hv2' 1 _ rfl
      have hd2 := hv2' 2 _ rfl
      have hd3 := hv2' 3 _ rfl
      clear hv1' hv2' HC' hx1 hx2 hy1 hy2 hSb hSb'
      have HX := Lib.hid hx; clear hx
      have HX3 := Lib.hid hx3; clear hx3
      have HY3 := Lib.hid hy3; clear hy3
      have hdr : Below wr.heap.size wr wr.drew := (Below.refl _ _).drew
      go_upto_region 9 with fail
      have e21 := Aft.each (kcell hdr k21)
      have f21 := Aft.each (kcell hdr j21)
      have e3 := Aft.each (kcell hdr hc3)
      have f3 := Aft.each (kcell hdr hd3)
      clear hdr
      refine reg_start (by kernel_rfl) ?_
      (refine reg_take 0 (v := ?_) (by rfl) (by kernel_rfl) (by kernel_rfl) (by kernel_rfl) (by exact fun _ _ _ h => h) (by rfl) ?_ ?_; rotate_left; focus (intro w hSw; go_simp; try with_reducible rfl))
      simp only [Act.put, List.setIfInBounds_toArray, List.set_cons_zero, List.set_cons_succ]
      (refine reg_take 1 (v := ?_) (by rfl) (by kernel_rfl) (by kernel_rfl) (by kernel_rfl) (by exact fun _ _ _ h => h) (by rfl) ?_ ?_; rotate_left; focus (intro w hSw; go_simp; try with_reducible rfl))
      simp only [Act.put, List.setIfInBounds_toArray, List.set_cons_zero, List.set_cons_succ]
      (refine reg_take 2 (v := ?_) (by rfl) (by kernel_rfl) (by kernel_rfl) (by kernel_rfl) (by exact fun _ _ _ h => h) (by rfl) ?_ ?_; rotate_left; focus (intro w hSw; go_simp; try with_reducible rfl))
      simp only [Act.put, List.setIfInBounds_toArray, List.set_cons_zero, List.set_cons_succ]
      (refine reg_take 3 (v := ?_) (by rfl) (by kernel_rfl) (by kernel_rfl) (by kernel_rfl) (by exact fun _ _ _ h => h) (by rfl) ?_ ?_; rotate_left; focus (intro w hSw; go_simp; try with_reducible rfl))
      simp only [Act.put, List.setIfInBounds_toArray, List.set_cons_zero, List.set_cons_succ]
      (refine reg_take 4 (v := ?_) (by rfl) (by kernel_rfl) (by kernel_rfl) (by kernel_rfl) (by exact fun _ _ _ h => h) (by rfl) ?_ ?_; rotate_left; focus (intro w hSw; go_simp; try with_reducible rfl))
      simp only [Act.put, List.setIfInBounds_toArray, List.set_cons_zero, List.set_cons_succ]
      (refine reg_take 5 (v := ?_) (by rfl) (by kernel_rfl) (by kernel_rfl) (by kernel_rfl) (by exact fun _ _ _ h => h) (by rfl) ?_ ?_; rotate_left; focus (intro w hSw; go_simp; try with_reducible rfl))
      simp only [Act.put, List.setIfInBounds_toArray, List.set_cons_zero, List.set_cons_succ]
      (refine reg_take 6 (v := ?_) (by rfl) (by kernel_rfl) (by kernel_rfl) (by kernel_rfl) (by exact fun _ _ _ h => h) (by rfl) ?_ ?_; rotate_left; focus (intro w hSw; go_simp; try with_reducible rfl))
      simp only [Act.put, List.setIfInBounds_toArray, List.set_cons_zero, List.set_cons_succ]
      (refine reg_take 7 (v := ?_) (by rfl) (by kernel_rfl) (by kernel_rfl) (by kernel_rfl) (by exact fun _ _ _ h => h) (by rfl) ?_ ?_; rotate_left; focus (intro w hSw; go_simp; try with_reducible rfl))
      simp only [Act.put, List.setIfInBounds_toArray, List.set_cons_zero, List.set_cons_succ]
      (refine reg_take 8 (v := ?_) (by rfl) (by kernel_rfl) (by kernel_rfl) (by kernel_rfl) (by exact fun _ _ _ h => h) (by rfl) ?_ ?_; rotate_left; focus (intro w hSw; go_simp; try with_reducible rfl))
      simp only [Act.put, List.setIfInBounds_toArray, List.set_cons_zero, List.set_cons_succ]
      (refine reg_take 9 (v := ?_) (by rfl) (by kernel_rfl) (by kernel_rfl) (by kernel_rfl) (by exact fun _ _ _ h => h) (by rfl) ?_ ?_; rotate_left; focus (intro w hSw; go_simp; try with_reducible rfl))
      simp only [Act.put, List.setIfInBounds_toArray, List.set_cons_zero, List.set_cons_succ]
      (refine reg_take 10 (v := ?_) (by rfl) (by kernel_rfl) (by kernel_rfl) (by kernel_rfl) (by exact fun _ _ _ h => h) (by rfl) ?_ ?_; rotate_left; focus (intro w hSw; go_simp; try with_reducible rfl))
      simp only [Act.put, List.setIfInBounds_toArray, List.set_cons_zero, List.set_cons_succ]
      (refine reg_take 11 (v := ?_) (by rfl) (by kernel_rfl) (by kernel_rfl) (by kernel_rfl) (by exact fun _ _ _ h => h) (by rfl) ?_ ?_; rotate_left; focus (intro w hSw; go_simp; try with_reducible rfl))
      simp only [Act.put, List.setIfInBounds_toArray, List.set_cons_zero, List.set_cons_succ]
      refine reg_call 12 (by kernel_rfl) (by rfl) (fun K hK => ?_)
      go_simp
      go_at_call 51; refine (sameVals8_any (goesArr.after HX3.out (by repeat (first | exact Below.refl _ _ | assumption | refine Below.drew ?_ | refine below_drewN ?_ _ | refine Below.alloc ?_ (by first | (simp; done) | omega | (simp; omega)) _ | refine Below.setCell ?_ (by first | (simp; done) | omega | (simp; omega)) _))) (goesArr.after HY3.out (by repeat (first | exact Below.refl _ _ | assumption | refine Below.drew ?_ | refine below_drewN ?_ _ | refine Below.alloc ?_ (by first | (simp; done) | omega | (simp; omega)) _ | refine Below.setCell ?_ (by first | (simp; done) | omega | (simp; omega)) _)))).mono ?_; rintro e5 w6 ⟨rfl, hb6⟩
      refine hK.out _ _ (hb6) ?_
      clear hK K
      try simp only [Act.put, List.setIfInBounds_toArray, List.set_cons_zero, List.set_cons_succ]
      (refine reg_take 13 (v := ?_) (by rfl) (by kernel_rfl) (by kernel_rfl) (by kernel_rfl) (by exact fun _ _ _ h => h) (by rfl) ?_ ?_; rotate_left; focus (intro w hSw; go_simp; try with_reducible rfl))
      simp only [Act.put, List.setIfInBounds_toArray, List.set_cons_zero, List.set_cons_succ]
      refine wpAnyH_done (by kernel_rfl) ?_ _
      have hb6' : Below wr.heap.size wr w6 := Below.trans (by repeat (first | exact Below.refl _ _ | assumption | refine Below.drew ?_ | refine below_drewN ?_ _ | refine Below.alloc ?_ (by first | (simp; done) | omega | (simp; omega)) _ | refine Below.setCell ?_ (by first | (simp; done) | omega | (simp; omega)) _)) (hb6.mono (by simp))
      clear e21 f21 e3 f3 hb6
      replace k21 := kcell hb6' k21
      replace j21 := kcell hb6' j21
      replace hc0 := kcell hb6' hc0
      replace hc1 := kcell hb6' hc1
      replace hc2 := kcell hb6' hc2
      replace hd0 := kcell hb6' hd0
      replace hd1 := kcell hb6' hd1
      replace hd2 := kcell hb6' hd2
      clear hc3 hd3
      have HB7 := Lib.hid (HBr.out.trans (hb6'.mono hsz))
      clear hb6'
      go_wp2_with fail
      go_quiet (fail)
      go_wp2_with fail
      refine ⟨⟨k + 1, by omega, by go_num, Lib.hid (by have := HB7.out; exact (by repeat (first | exact Below.refl _ _ | assumption | refine Below.drew ?_ | refine below_drewN ?_ _ | refine Below.alloc ?_ (by simp) _ | refine Below.setCell ?_ (by simp) _)))⟩, by simp [intOf]; omega⟩
    · go_wp2_with fail
      go_ret
      exact ⟨rfl, HB6.out⟩
end Go.Proofs.Sb
