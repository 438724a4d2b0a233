/- The walk over signalboxlaw08.RequestBatches: true at every input, and nothing that was there has turned. Conditions: each value up to 2^20 bytes. -/
import Derived.Test.YtdgmkmadlnmhbaaAwake8
import Derived.Test.YtdgmkmadlnmhbaaArgsr
import Derived.Test.YtdgmkmadlnmhbaaRqh
import Derived.Test.YtdgmkmadlnmhbaaOwng
import Derived.Deep.CutBlock
import Derived.Deep.DeepCutAuto
import Derived.Deep.QuietTactic
import Derived.BigQuiet
set_option linter.unusedVariables false
set_option linter.unusedSimpArgs false
namespace Go.Proofs.Sb
open Go.RowKit _root_.Sb

set_option maxHeartbeats 8000000 in
set_option maxRecDepth 100000 in
theorem requestBatches_any {S1 S2 S3 : Nat → Prop} {w : World} {kd : Nat} {A1 A2 A3 : Option Addr} {n1 c1 n2 c2 n3 c3 : Nat} {ts : List B} {ps : List Bool} {vs : List Val}
    (h1 : Arr 1 strP S1 w A1 n1 c1 ts) (ht : ∀ t ∈ ts, t.length ≤ 1048576) (h2 : Arr 1 bitP S2 w A2 n2 c2 ps) (h3 : Arr 2 (valP S3 w) S3 w A3 n3 c3 vs) (hkd : kd < 256) (hv : ∀ v ∈ vs, v.bytes.length ≤ 1048576) :
    Calls Try.prog 8 #[.int .u8 (kd : Int), .slice A1 n1 c1, .slice A2 n2 c2, .slice A3 n3 c3] w fun e w' => e = .returned (.bool true) ∧ Below w.heap.size w w' := by
  have hl1 := Lib.hid h1.len
  have hl2 := Lib.hid h2.len
  have hl3 := Lib.hid h3.len
  have hc1 := h1.cap
  have hm1 := h1.capMax
  have hc2 := h2.cap
  have hm2 := h2.capMax
  have hc3 := h3.cap
  have hm3 := h3.capMax
  have H1 := Lib.hid (goesArr.mono (S' := fun b => b < w.heap.size) h1 fun b _ h => h); clear h1
  have H2 := Lib.hid (goesArr.mono (S' := fun b => b < w.heap.size) h2 fun b _ h => h); clear h2
  have H3 := Lib.hid (goesArrV.mono (S' := fun b => b < w.heap.size) h3 fun b _ h => h); clear h3
  have HV := Lib.hid hv; clear hv
  have HTS := Lib.hid ht; clear ht
  go_enter Try.func8, Try.ntmps8
  go_wp2_with fail
  refine (awake8 _).mono ?_
  rintro e w1 ⟨rfl, hb1⟩
  have HB1 := Lib.hid hb1; clear hb1
  by_cases hbig1 : 30 < n1
  · go_wp2_with fail
    go_ret
    exact ⟨rfl, HB1.out⟩
  by_cases hbig2 : 30 < n2
  · go_wp2_with fail
    go_ret
    exact ⟨rfl, HB1.out⟩
  by_cases hbig3 : 20 < n3
  · go_wp2_with fail
    go_ret
    exact ⟨rfl, HB1.out⟩
  go_wp2_with (first | (refine wpList_built (by rfl) 30 _ (by rfl) (parV bRun none 0 0 none 0 0 none 0 0).toArray (by kernel_rfl) ?_) | (refine wpList_built (by rfl) 33 _ (by rfl) (rqV (bRq (kd % 3) []) .z .z .z .z .z .z .z .z).toArray (by kernel_rfl) ?_) | (refine wpList_store_newB (by rfl) 33 _ _ (by rfl) _ _ _ (rqV (bRq (kd % 3) []) .z .z .z .z .z .z .z .z).toArray (by rfl) (by rfl) (by simp) (by rfl) (by kernel_rfl) (by rfl) (by rfl) ?_; intro w2 hb2 hz2 hx2; have HB2 := Lib.hid (HB1.out.trans (hb2.mono HB1.out.size)); have HX2 : Hid (Bx (fun b => b = w1.heap.size) w2 w1.heap.size (rqV (bRq (kd % 3) []) .z .z .z .z .z .z .z .z)) := Lib.hid hx2; clear hb2 hx2))
  obtain ⟨X, hX⟩ : ∃ X, X = w1.heap.size := ⟨_, rfl⟩
  rw [← hX] at HX2 ⊢
  have hXw : w.heap.size ≤ X := by rw [hX]; exact HB1.out.size
  have hX2 : X < w2.heap.size := by omega
  clear hX hz2
  go_loopw [11] (fun i wr => ∃ k : Nat, k ≤ n3 ∧ i = .int .i64 (k : Nat) ∧ Hid (∀ x ∈ vs.take k, 0 ≤ x.kind ∧ x.kind ≤ 2) ∧ w2 = wr) (fun i _ => n3 - (intOf i).toNat)
  case atStart => exact ⟨0, by omega, rfl, Lib.hid (by intro x hx; simp at hx), rfl⟩
  case round =>
    obtain ⟨k, hk, rfl, HK, rfl⟩ := hrel
    by_cases hlt : k < n3
    · obtain ⟨x, hx⟩ : ∃ x, vs[k]? = some x := ⟨_, List.getElem?_eq_getElem (by have := hl3.out; omega)⟩
      obtain ⟨b, o, rfl, hSb, hbs, HC⟩ := (goesArrV.after H3.out HB2.out).at (by decide) (by omega)
      obtain ⟨v, hv1, hp, hv2⟩ := HC k x hx
      obtain ⟨A9, n9, c9, rfl, hsl⟩ := hp
      have hc0' := hv2 0 _ rfl
      simp only [Nat.add_zero] at hc0'
      clear hv1 hv2 HC hsl
      have HX := Lib.hid hx; clear hx
      by_cases hneg : x.kind < 0
      · go_wp2_with fail
        go_ret
        exact ⟨rfl, HB2.out⟩
      by_cases hbig : 2 < x.kind
      · go_wp2_with fail
        go_ret
        exact ⟨rfl, HB2.out⟩
      have HK2 : Hid (∀ y ∈ vs.take (k + 1), 0 ≤ y.kind ∧ y.kind ≤ 2) := Lib.hid (by
        intro y hy
        rw [List.take_add_one, HX.out, List.mem_append] at hy
        rcases hy with hy | hy
        · exact HK.out y hy
        · obtain rfl : y = x := by simpa using hy
          exact ⟨by omega, by omega⟩)
      go_wp2_with fail
      refine ⟨⟨k + 1, by omega, by go_num, HK2, trivial⟩, by simp [intOf]; omega⟩
    · obtain rfl : n3 = k := by omega
      have hks := HK.out
      rw [List.take_of_length_le (by have := hl3.out; omega)] at hks
      have HKS := Lib.hid hks; clear hks HK hlt hk
      obtain ⟨N, hN⟩ : ∃ N, N = min n1 n2 := ⟨_, rfl⟩
      have hN1 : N ≤ n1 := by omega
      have hN2 : N ≤ n2 := by omega
      have hN3 : N = n1 ∨ N = n2 := by omega
      have HN := Lib.hid hN; clear hN
      have HN3 := Lib.hid hN3; clear hN3
      obtain ⟨ρ0, hρ0⟩ : ∃ ρ0 : Nat → Nat, ρ0 = xt (fun b => if b = X then 8 else 5) w2.heap.size 5 := ⟨_, rfl⟩
      have HR0 : Hid (∀ b, b < w2.heap.size → ρ0 b = if b = X then 8 else 5) := Lib.hid (fun b hb => by rw [hρ0, xt_lt hb])
      clear hρ0
      go_upto_block 2 with fail
      go_cut [] (fun wx => ∃ ρ A d, Hid (OwnS 58 4 (stmP (Rl ρ 5) wx) (Rl ρ 4) wx A N d (bAll vs ts ps)) ∧ Hid (Bx (fun b => b = X) wx X (rqV (bRq (kd % 3) []) .z .z .z .z .z .z .z ⟨A, N, d⟩)) ∧ Hid (Below w.heap.size w wx) ∧ Hid (Bt (kd % 3) ts ps vs))
      -- MARK
      rotate_left
      · skip
        obtain ⟨ρ, A, d, HK, HBx, HB, HBT⟩ := hcut
        obtain ⟨wl, hwo⟩ : ∃ wo, wo = wc := ⟨_, rfl⟩
        subst hwo
        have HLN : Hid ((bAll vs ts ps).length = N) := Lib.hid (by rw [bAll_len, ← hl1.out, ← hl2.out, HN.out])
        have HRQ : Hid (RqR (fun _ => True) wl (bRq (kd % 3) (bAll vs ts ps)) .z .z .z .z .z .z .z ⟨A, N, d⟩) := Lib.hid ⟨Arr.nil, Nat.zero_le _, Sl.nil, ⟨Arr.nil, Arr.nil, Sl.nil⟩, Arr.nil, Sl.nil, ((HK.out.arr (by decide)).mono fun b hb _ => trivial).imp fun x _ v hp => (goesStm x v).mono hp fun b hb _ => trivial⟩
        obtain ⟨bb, hbb⟩ := b_put HBT.out
        have HBB := Lib.hid hbb; clear hbb
        go_wp2_with (first | (refine wpList_loadB HBx.out (by rfl) 33 _ (by rfl) (by rfl) _ Try.underlying33 rfl (by kernel_rfl) ?_))
        have hput := wPut_any HRQ.out (by show 13 < 256; decide) (by show kd % 3 < 256; omega) bRun_num (by have := b_light HBT.out; omega) (.ok bb) HBB.out
        rw [show rqV (bRq (kd % 3) (bAll vs ts ps)) .z .z .z .z .z .z .z ⟨A, N, d⟩ = rqV (bRq (kd % 3) []) .z .z .z .z .z .z .z ⟨A, N, d⟩ from rfl] at hput
        refine hput.mono ?_
        clear hput
        rintro e w4 ⟨A4, n4, c4, rfl, hs4, hb4⟩
        rw [werr_ok]
        have HS4 : Hid (Sl (fun b => wl.heap.size ≤ b) w4 A4 n4 c4 bb) := Lib.hid hs4
        have HB4 := Lib.hid (HB.out.trans (hb4.mono HB.out.size))
        have HBx4 := Lib.hid (goesBx.after HBx.out hb4)
        have hle := put_le (bRq (kd % 3) (bAll vs ts ps))
        rw [HBB.out] at hle
        have hl4 : n4 ≤ 140737488355328 := by have := hs4.len; have := b_light HBT.out; have : lenW (.ok bb) = bb.length := rfl; rw [wval_ok] at *; omega
        clear hs4 hb4 hle HBx HRQ HK
        go_wp2_with fail
        refine (rget8_any (op := 13) HS4.out hl4 (by decide) _ (b_get HBT.out HBB.out)).mono ?_
        rintro e w5 ⟨o5, i5, x1, x2, x3, ev5, t5, al5, rfl, hq5, hb5⟩
        rw [show rqOf (.ok (bRq (kd % 3) ((bAll vs ts ps).map Stm.norm))) = bRq (kd % 3) ((bAll vs ts ps).map Stm.norm) from rfl] at hq5 ⊢
        rw [show erOf (.ok (bRq (kd % 3) ((bAll vs ts ps).map Stm.norm))) = 0 from rfl]
        obtain ⟨A5, m5, d5⟩ := al5
        obtain rfl : m5 = N := by have := hq5.all.len; have := HLN.out; rw [show (bRq (kd % 3) ((bAll vs ts ps).map Stm.norm)).all = (bAll vs ts ps).map Stm.norm from rfl, List.length_map] at *; dsimp only at *; omega
        have hcap5 := hq5.all.cap
        have hcm5 := hq5.all.capMax
        dsimp only at hcap5 hcm5
        have HQ5 := Lib.hid (goesRq.mono (S' := fun b => b < w5.heap.size) hq5 fun b _ h => h)
        have HB5 := Lib.hid (HB4.out.trans (hb5.mono HB4.out.size))
        have HBx5 := Lib.hid (goesBx.after HBx4.out hb5)
        clear hq5 hb5 HS4 hl4 HBx4
        go_upto_region 23 with (first | (refine wpList_store_newB (by rfl) 33 _ _ (by rfl) _ _ _ _ (by rfl) (by rfl) (by simp) (by rfl) (by kernel_rfl) (by rfl) (by rfl) ?_; intro w6 hb6 hz6 hx6; have HX6 : Hid (Bx (fun b => b = w5.heap.size) w6 w5.heap.size (rqV (bRq (kd % 3) ((bAll vs ts ps).map Stm.norm)) o5 i5 x1 x2 x3 ev5 t5 ⟨A5, m5, d5⟩)) := Lib.hid hx6; have HB6 := Lib.hid (HB5.out.trans (hb6.mono HB5.out.size)); have HBx6 := Lib.hid (goesBx.after HBx5.out hb6); have HQ6 := Lib.hid (goesRq.after HQ5.out hb6); clear hb6 hz6 hx6))
        obtain ⟨Y, hY⟩ : ∃ Y, Y = w5.heap.size := ⟨_, rfl⟩
        rw [← hY] at HX6 ⊢
        clear hY HQ5 HBx5 HB5
        have y4 := HX6.out.c 4 _ rfl
        have y20 := HX6.out.c 20 _ rfl
        have y21 := HX6.out.c 21 _ rfl
        have x20 := HBx6.out.c 20 _ rfl
        have x21 := HBx6.out.c 21 _ rfl
        go_wp2_with fail
        go_loopw [18] (fun i wr => ∃ k : Nat, k ≤ m5 ∧ i = .int .i64 (k : Nat) ∧ Hid (Below w6.heap.size w6 wr)) (fun i _ => m5 - (intOf i).toNat)
        case atStart => exact ⟨0, by omega, rfl, Lib.hid (Below.refl _ _)⟩
        case round =>
          obtain ⟨k, hk, rfl, HBr⟩ := hrel
          have HBw := Lib.hid (HB6.out.trans (HBr.out.mono HB6.out.size))
          replace y21 := kcell HBr.out y21
          replace x21 := kcell HBr.out x21
          by_cases hlt : k < m5
          · obtain ⟨x, hx⟩ : ∃ x, ts[k]? = some x := ⟨_, List.getElem?_eq_getElem (by have := hl1.out; omega)⟩
            obtain ⟨p, hp⟩ : ∃ p, ps[k]? = some p := ⟨_, List.getElem?_eq_getElem (by have := hl2.out; omega)⟩
            have hy : ((bAll vs ts ps).map Stm.norm)[k]? = some (bStm vs x p).norm := by rw [List.getElem?_map, bAll_get vs hx hp]; rfl
            obtain ⟨b1, o1, rfl, hS1, hz1, HC1⟩ := (H1.out.after HBw.out).at (by decide) (by omega)
            obtain ⟨v1, _, hp1, hv1⟩ := HC1 k x hx
            obtain ⟨rfl, hxl⟩ := hp1
            have e1 := hv1 0 _ rfl
            obtain ⟨b2, o2, rfl, hS2, hz2, HC2⟩ := (H2.out.after HBw.out).at (by decide) (by omega)
            obtain ⟨v2, _, hp2, hv2⟩ := HC2 k p hp
            obtain rfl : v2 = [.bool p] := hp2
            have e2 := hv2 0 _ rfl
            simp only [Nat.mul_one, Nat.add_zero] at e1 e2
            obtain ⟨b5, o5', rfl, hS5, hz5, HC5⟩ := (goesRq.after HQ6.out HBr.out).all.at (by decide) (by dsimp only; omega)
            obtain ⟨v5, _, hp5, hv5'⟩ := HC5 k _ hy
            clear hv1 hv2 HC1 HC2 HC5 hz1 hz2 hz5 hx hp hy
            cases p with
            | true =>
              rw [b_true] at hp5
              obtain ⟨Ai, ni, ci, Av, nv, cv, rfl, _, hsi, hav⟩ := hp5
              dsimp only at hsi hav hv5'
              have hrg : wr.rangeAt b5 (o5' + k * 4) [.bool true, .string (str []), .slice Ai ni ci, .slice Av nv cv] := fun j u h => hv5' j u h
              have HSI := Lib.hid hsi
              have HAV := Lib.hid hav
              have hnv := hav.len
              have hcv := hav.cap
              have hcvm := hav.capMax
              clear hv5' hsi hav
              obtain rfl : nv = 0 := hnv
              go_wp2_with (first | (refine wpList_load_mid (by rfl) 58 _ (by rfl) b5 (o5' + k * 4) (by rfl) [.bool true, .string (str []), .slice Ai ni ci, .slice Av 0 cv] _ hrg Try.underlying58 rfl (by kernel_rfl) ?_) | (refine wpList_store_newB (by rfl) 58 _ _ (by rfl) _ _ _ #[.bool true, .string (str []), .slice Ai ni ci, .slice Av 0 cv] (by rfl) (by rfl) (by simp) (by rfl) (by kernel_rfl) (by rfl) (by rfl) ?_; intro w7 hb7 hz7 hx7; go_loud (have HB7 := Lib.hid (HBr.out.trans (hb7.mono HBr.out.size)); have z0 := hx7.c 0 _ rfl; have z1 := hx7.c 1 _ rfl; have z2 := hx7.c 2 _ rfl; have z3 := hx7.c 3 _ rfl; replace e1 := kcell hb7 e1; replace e2 := kcell hb7 e2; have HSI7 := Lib.hid (HSI.out.after hb7); have HAV7 := Lib.hid (goesArrV.after HAV.out hb7); have hcv7 := conv_sl HSI7.out; have hl7 := hx7.lt; clear hz7 hx7 hrg hb7)))
              have q1 : (k : Int) < (n1 : Int) := by omega
              have q2 : (k : Int) < (n2 : Int) := by omega
              have hcI : ∀ n, (convert 23 9 (.slice Ai ni ci)).run Try.prog (w7.drewN n) = .ok (.string (str x)) (w7.drewN n) := fun n => conv_sl (HSI7.out.after (below_drewN (Below.refl _ _) n))
              clear hcv7
              go_quiet (fail)
              clear hcI q1 q2 z0 z1 z2 e1 e2
              obtain ⟨w8, hw8⟩ : ∃ w8, w8 = w7.drewN nq := ⟨_, rfl⟩
              have hdr : Below w7.heap.size w7 w8 := by rw [hw8]; exact below_drewN (Below.refl _ _) _
              rw [← hw8]
              have HB8 := Lib.hid (HB7.out.trans (hdr.mono HB7.out.size))
              have HAV8 := Lib.hid (goesArrV.after HAV7.out hdr)
              replace z3 := kcell hdr z3
              have hl8 : w7.heap.size ≤ w8.heap.size := hdr.size
              clear hdr hw8
              go_wp2_with fail
              go_loopw [20] (fun i wq => i = .int .i64 ((0 : Nat) : Int) ∧ w8 = wq) (fun _ _ => 0)
              case atStart => exact ⟨rfl, rfl⟩
              case round =>
                obtain ⟨rfl, rfl⟩ := hrel
                go_wp2_with fail
                refine ⟨⟨k + 1, by omega, by go_num, HB8⟩, by simp [intOf]; omega⟩
            | false =>
              rw [b_false] at hp5
              obtain ⟨Ai, ni, ci, Av, nv, cv, rfl, _, hsi, hav⟩ := hp5
              dsimp only at hsi hav hv5'
              have hrg : wr.rangeAt b5 (o5' + k * 4) [.bool false, .string (str x), .slice Ai ni ci, .slice Av nv cv] := fun j u h => hv5' j u h
              have HSI := Lib.hid hsi
              have HAV := Lib.hid hav
              have hnv := hav.len
              have hcv := hav.cap
              have hcvm := hav.capMax
              clear hv5' hsi hav
              obtain rfl : n3 = nv := by rw [List.length_map] at hnv; have := hl3.out; omega
              clear hnv
              go_wp2_with (first | (refine wpList_load_mid (by rfl) 58 _ (by rfl) b5 (o5' + k * 4) (by rfl) [.bool false, .string (str x), .slice Ai ni ci, .slice Av n3 cv] _ hrg Try.underlying58 rfl (by kernel_rfl) ?_) | (refine wpList_store_newB (by rfl) 58 _ _ (by rfl) _ _ _ #[.bool false, .string (str x), .slice Ai ni ci, .slice Av n3 cv] (by rfl) (by rfl) (by simp) (by rfl) (by kernel_rfl) (by rfl) (by rfl) ?_; intro w7 hb7 hz7 hx7; go_loud (have HB7 := Lib.hid (HBr.out.trans (hb7.mono HBr.out.size)); have z0 := hx7.c 0 _ rfl; have z1 := hx7.c 1 _ rfl; have z2 := hx7.c 2 _ rfl; have z3 := hx7.c 3 _ rfl; replace e1 := kcell hb7 e1; replace e2 := kcell hb7 e2; have HSI7 := Lib.hid (HSI.out.after hb7); have HAV7 := Lib.hid (goesArrV.after HAV.out hb7); have hcv7 := conv_sl HSI7.out; have hl7 := hx7.lt; clear hz7 hx7 hrg hb7)))
              have q1 : (k : Int) < (n1 : Int) := by omega
              have q2 : (k : Int) < (n2 : Int) := by omega
              have hcI : ∀ n, (convert 23 9 (.slice Ai ni ci)).run Try.prog (w7.drewN n) = .ok (.string (str [])) (w7.drewN n) := fun n => conv_sl (HSI7.out.after (below_drewN (Below.refl _ _) n))
              clear hcv7
              go_quiet (fail)
              clear hcI q1 q2 z0 z1 z2 e1 e2
              obtain ⟨w8, hw8⟩ : ∃ w8, w8 = w7.drewN nq := ⟨_, rfl⟩
              have hdr : Below w7.heap.size w7 w8 := by rw [hw8]; exact below_drewN (Below.refl _ _) _
              rw [← hw8]
              have HB8 := Lib.hid (HB7.out.trans (hdr.mono HB7.out.size))
              have HAV8 := Lib.hid (goesArrV.after HAV7.out hdr)
              replace z3 := kcell hdr z3
              have hl8 : w7.heap.size ≤ w8.heap.size := hdr.size
              clear hdr hw8
              go_wp2_with fail
              go_loopw [20] (fun i wr => ∃ r : Nat, r ≤ n3 ∧ i = .int .i64 (r : Nat) ∧ Hid (Below w8.heap.size w8 wr)) (fun i _ => n3 - (intOf i).toNat)
              case atStart => exact ⟨0, by omega, rfl, Lib.hid (Below.refl _ _)⟩
              case round =>
                obtain ⟨r, hr, rfl, HBq⟩ := hrel
                have HBq6 := Lib.hid (HB8.out.trans (HBq.out.mono HB8.out.size))
                have HBqw := Lib.hid (HB6.out.trans (HBq6.out.mono HB6.out.size))
                replace z3 := kcell HBq.out z3
                by_cases hlr : r < n3
                · obtain ⟨v, hv⟩ : ∃ v, vs[r]? = some v := ⟨_, List.getElem?_eq_getElem (by have := hl3.out; omega)⟩
                  have hv' : (vs.map Val.norm)[r]? = some v.norm := by rw [List.getElem?_map, hv]; rfl
                  obtain ⟨b3, o3, rfl, hS3, hz3, HC3⟩ := (goesArrV.after H3.out HBqw.out).at (by decide) (by omega)
                  obtain ⟨v3, _, hp3, hv3⟩ := HC3 r v hv
                  obtain ⟨A7, n7, c7, rfl, hs7⟩ := hp3
                  obtain ⟨b6, o6, rfl, hS6, hz6, HC6⟩ := (goesArrV.after HAV8.out HBq.out).at (by decide) (by omega)
                  obtain ⟨v6, _, hp6, hv6⟩ := HC6 r _ hv'
                  obtain ⟨A8, n8, c8, rfl, hs8⟩ := hp6
                  have k0 := hv3 0 _ rfl
                  have k1 := hv3 1 _ rfl
                  have j0 := hv6 0 _ rfl
                  have j1 := hv6 1 _ rfl
                  simp only [Nat.add_zero] at k0 j0
                  have HS7 := Lib.hid hs7
                  have HS8 := Lib.hid hs8
                  have hbv := HV.out v (List.mem_of_getElem? hv)
                  clear hv3 hv6 HC3 HC6 hs7 hs8 hv hv' hS3 hS6 hz3 hz6
                  rw [show v.norm.kind = v.kind by unfold Val.norm; split <;> rfl] at j0
                  go_upto_region 34 with fail
                  have hc7 : ∀ n, (convert 23 9 (.slice A7 n7 c7)).run Try.prog (wr.drewN n) = .ok (.string (str v.bytes)) (wr.drewN n) := fun n => conv_sl (HS7.out.after (below_drewN (Below.refl _ _) n))
                  have hc8 : ∀ n, (convert 23 9 (.slice A8 n8 c8)).run Try.prog (wr.drewN n) = .ok (.string (str v.norm.bytes)) (wr.drewN n) := fun n => conv_sl (HS8.out.after (below_drewN (Below.refl _ _) n))
                  have q3 : (r : Int) < (n3 : Int) := by omega
                  by_cases h2 : v.kind = 2
                  · have hk2 : (v.kind == 2) = true := by rw [h2]; rfl
                    rw [show v.norm = v by unfold Val.norm; rw [if_pos h2]] at hc8
                    generalize v.kind = kv at *
                    clear h2
                    go_quiet (fail)
                    clear k0 k1 j0 j1 hc7 hc8 q3 hk2
                    obtain ⟨w9, hw9⟩ : ∃ w9, w9 = wr.drewN nq := ⟨_, rfl⟩
                    have hdr : Below wr.heap.size wr w9 := by rw [hw9]; exact below_drewN (Below.refl _ _) _
                    rw [← hw9]
                    have HBd := Lib.hid (HBq.out.trans (hdr.mono HBq.out.size))
                    clear hdr hw9
                    go_wp2_with fail
                    refine ⟨⟨r + 1, by omega, by go_num, HBd⟩, by simp [intOf]; omega⟩
                  · have hk2 : (v.kind == 2) = false := by simpa using h2
                    generalize v.kind = kv at *
                    clear h2
                    go_quiet (fail)
                    clear k0 k1 j0 j1 hc7 hc8 q3 hk2
                    obtain ⟨w9, hw9⟩ : ∃ w9, w9 = wr.drewN nq := ⟨_, rfl⟩
                    have hdr : Below wr.heap.size wr w9 := by rw [hw9]; exact below_drewN (Below.refl _ _) _
                    rw [← hw9]
                    have HBd := Lib.hid (HBq.out.trans (hdr.mono HBq.out.size))
                    clear hdr hw9
                    go_wp2_with fail
                    refine ⟨⟨r + 1, by omega, by go_num, HBd⟩, by simp [intOf]; omega⟩
                · obtain rfl : n3 = r := by omega
                  go_wp2_with fail
                  refine ⟨⟨k + 1, by omega, by go_num, Lib.hid HBq6.out⟩, by simp [intOf]; omega⟩
          · obtain rfl : k = m5 := by omega
            go_wp2_with fail
            go_ret
            exact ⟨rfl, HBw.out⟩
      go_wp2_with fail
      go_loopw [12] (fun i wr => ∃ ρ j A m d, j ≤ N ∧ i = .int .i64 (j : Nat) ∧ Hid (∀ b, b < w2.heap.size → ρ b = if b = X then 8 else 5) ∧ Hid (OwnS 58 4 (stmP (Rl ρ 5) wr) (Rl ρ 4) wr A m d ((bAll vs ts ps).take j)) ∧ Hid (Bx (fun b => b = X) wr X (rqV (bRq (kd % 3) []) .z .z .z .z .z .z .z ⟨A, m, d⟩)) ∧ Hid (Below w.heap.size w wr) ∧ w2.heap.size ≤ wr.heap.size ∧ Hid (∀ (k : Nat) (t : B), k < j → ts[k]? = some t → t.length ≤ 500)) (fun i _ => N - (intOf i).toNat)
      case atStart => exact ⟨ρ0, 0, none, 0, 0, by omega, rfl, HR0, Lib.hid OwnS.nil, HX2, HB2, Nat.le_refl _, Lib.hid (fun k t h => absurd h (Nat.not_lt_zero _))⟩
      case round =>
        obtain ⟨ρ, j, A, m, d, hj, rfl, HR, HK, HBx, HB, hsz, HT⟩ := hrel
        by_cases hlt : j < N
        · obtain ⟨x, hx⟩ : ∃ x, ts[j]? = some x := ⟨_, List.getElem?_eq_getElem (by have := hl1.out; omega)⟩
          obtain ⟨p, hp⟩ : ∃ p, ps[j]? = some p := ⟨_, List.getElem?_eq_getElem (by have := hl2.out; omega)⟩
          have hx500 := HTS.out x (List.mem_of_getElem? hx)
          have HL : Hid ((bAll vs ts ps).take (j + 1) = (bAll vs ts ps).take j ++ [bStm vs x p]) := Lib.hid (by rw [List.take_add_one, bAll_get vs hx hp]; rfl)
          have HT1 : x.length ≤ 500 → Hid (∀ (k : Nat) (t : B), k < j + 1 → ts[k]? = some t → t.length ≤ 500) := fun h => Lib.hid (fun k t hk ht => by
            by_cases e : k = j
            · subst e; rw [hx] at ht; injection ht with ht; rw [← ht]; exact h
            · exact HT.out k t (by omega) ht)
          obtain ⟨b1, o1, rfl, hS1, hz1, HC1⟩ := (H1.out.after HB.out).at (by decide) (by omega)
          obtain ⟨v1, _, hp1, hv1⟩ := HC1 j x hx
          obtain ⟨rfl, hxl⟩ := hp1
          have e1 := hv1 0 _ rfl
          obtain ⟨b2, o2, rfl, hS2, hz2, HC2⟩ := (H2.out.after HB.out).at (by decide) (by omega)
          obtain ⟨v2, _, hp2, hv2⟩ := HC2 j p hp
          obtain rfl : v2 = [.bool p] := hp2
          have e2 := hv2 0 _ rfl
          simp only [Nat.mul_one, Nat.add_zero] at e1 e2
          clear hv1 hv2 HC1 HC2 hz1 hz2 hp hx
          have HT2 := Lib.hid HT1; clear HT1
          cases p with
          | false =>
            by_cases h500 : 500 < x.length
            · go_wp2_with (first | (refine wpList_built (by rfl) 58 _ (by rfl) #[.bool false, .string (str x), .slice none 0 0, .slice A3 n3 c3] (by kernel_rfl) ?_) | (refine wpList_store_newB (by rfl) 58 _ _ (by rfl) _ _ _ #[.bool false, .string (str x), .slice none 0 0, .slice A3 n3 c3] (by rfl) (by rfl) (by simp) (by rfl) (by kernel_rfl) (by rfl) (by rfl) ?_; intro w3 hb3 hz3 hx3; have HX3 : Hid (Bx (fun b => b = wr.heap.size) w3 wr.heap.size [.bool false, .string (str x), .slice none 0 0, .slice A3 n3 c3]) := Lib.hid hx3; have HB3 := Lib.hid (HB.out.trans (hb3.mono HB.out.size)); have HBx3 := Lib.hid (goesBx.after HBx.out hb3); obtain ⟨ρ3, hr3⟩ : ∃ ρ3, ρ3 = xt ρ wr.heap.size 5 := ⟨_, rfl⟩; have hf3 : Fr (Rl ρ 9) wr w3 := Fr.of_below hb3; have HK3 := Lib.hid ((HK.out.stepx hf3 hr3).deepx goesStm hf3 hr3); have HR3 : Hid (∀ b, b < w2.heap.size → ρ3 b = if b = X then 8 else 5) := Lib.hid (fun b hb => by rw [hr3, xt_lt (by omega)]; exact HR.out b hb); replace e1 := kcell hb3 e1; replace e2 := kcell hb3 e2; have hzz3 := hb3.size; have HRN : Hid (∀ b, wr.heap.size ≤ b → ρ3 b = 5) := Lib.hid (fun b hb => by rw [hr3]; exact xt_ge hb); clear hb3 hx3 hf3 hr3 hz3; have p21 := HBx3.out.c 21 _ rfl; have z21 := HBx3.out.fr 21))
              go_ret
              exact ⟨rfl, HB3.out⟩
            · have hm9 : m ≤ 30 := by have := HK.out.len (by decide); rw [List.length_take] at this; omega
              go_upto_region 16 with (first | (refine wpList_built (by rfl) 58 _ (by rfl) #[.bool false, .string (str x), .slice none 0 0, .slice A3 n3 c3] (by kernel_rfl) ?_) | (refine wpList_store_newB (by rfl) 58 _ _ (by rfl) _ _ _ #[.bool false, .string (str x), .slice none 0 0, .slice A3 n3 c3] (by rfl) (by rfl) (by simp) (by rfl) (by kernel_rfl) (by rfl) (by rfl) ?_; intro w3 hb3 hz3 hx3; have HX3 : Hid (Bx (fun b => b = wr.heap.size) w3 wr.heap.size [.bool false, .string (str x), .slice none 0 0, .slice A3 n3 c3]) := Lib.hid hx3; have HB3 := Lib.hid (HB.out.trans (hb3.mono HB.out.size)); have HBx3 := Lib.hid (goesBx.after HBx.out hb3); obtain ⟨ρ3, hr3⟩ : ∃ ρ3, ρ3 = xt ρ wr.heap.size 5 := ⟨_, rfl⟩; have hf3 : Fr (Rl ρ 9) wr w3 := Fr.of_below hb3; have HK3 := Lib.hid ((HK.out.stepx hf3 hr3).deepx goesStm hf3 hr3); have HR3 : Hid (∀ b, b < w2.heap.size → ρ3 b = if b = X then 8 else 5) := Lib.hid (fun b hb => by rw [hr3, xt_lt (by omega)]; exact HR.out b hb); replace e1 := kcell hb3 e1; replace e2 := kcell hb3 e2; have hzz3 := hb3.size; have HRN : Hid (∀ b, wr.heap.size ≤ b → ρ3 b = 5) := Lib.hid (fun b hb => by rw [hr3]; exact xt_ge hb); clear hb3 hx3 hf3 hr3 hz3; have p21 := HBx3.out.c 21 _ rfl; have z21 := HBx3.out.fr 21))
              have HST : Hid (stmP (Rl ρ3 5) w3 (bStm vs x false) [.bool false, .string (str x), .slice none 0 0, .slice A3 n3 c3]) := Lib.hid ⟨none, 0, 0, A3, n3, c3, rfl, hxl, Sl.nil, goesArrV.mono (goesArrV.after H3.out HB3.out) fun b hb _ => by have := HR3.out b (by omega); rw [if_neg (by omega)] at this; exact this⟩
              go_wp2_with (first | (refine wpList_loadB HX3.out (by rfl) 58 _ (by rfl) (by rfl) _ Try.underlying58 rfl (by kernel_rfl) ?_) | (at_builtin; go_loud (refine wpList_appX rfl tyStm _ _ rfl (ρ := ρ3) (r := 4) _ _ _ ((bAll vs ts ps).take j) rfl (HK3.out.after ((Below.refl _ _).alloc (Nat.le_refl _) _)) _ _ _ _ [bStm vs x false] rfl (arr_lit (P := stmP (Rl ρ3 5) w3) _ #[.bool false, .string (str x), .slice none 0 0, .slice A3 n3 c3] (bStm vs x false) rfl HST.out (by first | rfl | simp)) (fun _ _ h => stmP_one _ _ h) (fun _ _ _ h => h) (by omega) (by unfold maxLen; omega) ?_); intro A4 m4 dd4 w5 ρ5 hx5 hown5 hf5; go_loud (have hba : Below w3.heap.size w3 (w3.alloc _) := (Below.refl _ _).alloc (Nat.le_refl _) (.cells #[.bool false, .string (str x), .slice none 0 0, .slice A3 n3 c3] 58); have HK5 := Lib.hid (((hown5.deepA goesStm hba).deepx goesStm hf5 hx5).as HL.out.symm); have HBx5 := Lib.hid (goesBx.keep (goesBx.after HBx3.out hba) hf5.size (fun b e hl => hf5.block b hl (by subst e; show ¬ ρ3 b = 4; rw [HR3.out b (by omega), if_pos rfl]; decide))); have HB5 := Lib.hid ((HB3.out.trans (hba.mono HB3.out.size)).trans (hf5.below (N := w.heap.size) (Nat.le_trans HB3.out.size hba.size) fun b hb e => by have h9 := HR3.out b (by omega); rw [if_neg (by omega)] at h9; have e : ρ3 b = 4 := e; omega)); have HR5 : Hid (∀ b, b < w2.heap.size → ρ5 b = if b = X then 8 else 5) := Lib.hid (fun b hb => by rw [hx5, xt_lt (Nat.lt_of_lt_of_le (Nat.lt_of_lt_of_le hb (by omega)) hba.size)]; exact HR3.out b hb); have hsz5 : w3.heap.size ≤ w5.heap.size := Nat.le_trans hba.size hf5.size; have p215 := HBx5.out.c 21 _ rfl; have z215 := HBx5.out.fr 21; clear hx5 hown5 hf5 hba p21 z21)))
              have hset : Fr (Rl ρ5 8) w5 (w5.setCell ⟨X, 21, none⟩ (.slice A4 m4 dd4)) := Fr.set w5 (X := X) (show Rl ρ5 8 X from by show ρ5 X = 8; rw [HR5.out X (by omega), if_pos rfl]) _
              have HK6 := Lib.hid ((HK5.out.stay hset).deepS goesStm hset)
              have HBx6 := Lib.hid (HBx5.out.put 21 (.slice A4 m4 dd4) (by show 21 < 22; decide))
              have HB6 := Lib.hid (HB5.out.trans (hset.below (N := w.heap.size) HB5.out.size fun b hb e => by have h9 := HR5.out b (by omega); rw [if_neg (by omega)] at h9; have e : ρ5 b = 8 := e; omega))
              have hs6 := hset.size
              refine ⟨⟨ρ5, j + 1, A4, m4, dd4, by omega, by go_num, HR5, HK6, HBx6, HB6, by omega, HT2.out (by omega)⟩, by simp [intOf]; omega⟩
          | true =>
            have hm9 : m ≤ 30 := by have := HK.out.len (by decide); rw [List.length_take] at this; omega
            go_upto_region 16 with (first | (refine wpList_built (by rfl) 58 _ (by rfl) #[.bool false, .string (str x), .slice none 0 0, .slice A3 n3 c3] (by kernel_rfl) ?_) | (refine wpList_store_newB (by rfl) 58 _ _ (by rfl) _ _ _ #[.bool false, .string (str x), .slice none 0 0, .slice A3 n3 c3] (by rfl) (by rfl) (by simp) (by rfl) (by kernel_rfl) (by rfl) (by rfl) ?_; intro w3 hb3 hz3 hx3; have HX3 : Hid (Bx (fun b => b = wr.heap.size) w3 wr.heap.size [.bool false, .string (str x), .slice none 0 0, .slice A3 n3 c3]) := Lib.hid hx3; have HB3 := Lib.hid (HB.out.trans (hb3.mono HB.out.size)); have HBx3 := Lib.hid (goesBx.after HBx.out hb3); obtain ⟨ρ3, hr3⟩ : ∃ ρ3, ρ3 = xt ρ wr.heap.size 7 := ⟨_, rfl⟩; have hf3 : Fr (Rl ρ 9) wr w3 := Fr.of_below hb3; have HK3 := Lib.hid ((HK.out.stepx hf3 hr3).deepx goesStm hf3 hr3); have HR3 : Hid (∀ b, b < w2.heap.size → ρ3 b = if b = X then 8 else 5) := Lib.hid (fun b hb => by rw [hr3, xt_lt (by omega)]; exact HR.out b hb); replace e1 := kcell hb3 e1; replace e2 := kcell hb3 e2; have hzz3 := hb3.size; have HRN : Hid (∀ b, wr.heap.size ≤ b → ρ3 b = 7) := Lib.hid (fun b hb => by rw [hr3]; exact xt_ge hb); clear hb3 hx3 hf3 hr3 hz3))
            obtain ⟨d4, w4, hcv, hog, hb4⟩ := conv_own w3 x (by omega)
            have HOG := Lib.hid hog.sl; clear hog
            replace e1 : w4.cell? ⟨b1, o1 + j, none⟩ = some (.string (str x)) ∧ w3.cell? ⟨b1, o1 + j, none⟩ = some (.string (str x)) := ⟨kcell hb4 e1, e1⟩
            obtain ⟨e1, e13⟩ := e1
            have HB4 := Lib.hid (HB3.out.trans (hb4.mono HB3.out.size))
            have HBx4 := Lib.hid (goesBx.after HBx3.out hb4)
            have HX4 := Lib.hid (goesBx.after HX3.out hb4)
            obtain ⟨ρ4, hr4⟩ : ∃ ρ4, ρ4 = xt ρ3 w3.heap.size 5 := ⟨_, rfl⟩
            have hf4 : Fr (Rl ρ3 9) w3 w4 := Fr.of_below hb4
            have HK4 := Lib.hid ((HK3.out.stepx hf4 hr4).deepx goesStm hf4 hr4)
            have HR4 : Hid (∀ b, b < w2.heap.size → ρ4 b = if b = X then 8 else 5) := Lib.hid (fun b hb => by rw [hr4, xt_lt (by omega)]; exact HR3.out b hb)
            have HR7 : Hid (ρ4 wr.heap.size = 7) := Lib.hid (by rw [hr4, xt_lt HX3.out.lt]; exact HRN.out _ (Nat.le_refl _))
            have hzz4 := hb4.size
            have HST : Hid (stmP (Rl ρ4 5) w4 (bStm vs x true) [.bool true, .string ⟨#[]⟩, .slice (some ⟨w3.heap.size, 0, none⟩) x.length d4, .slice none 0 0]) := Lib.hid ⟨_, _, _, none, 0, 0, rfl, Nat.zero_le _, goesSl.mono HOG.out (fun b hb _ => by show ρ4 b = 5; rw [hr4]; exact xt_ge hb), Arr.nil⟩
            clear hr4 hf4 hb4
            go_upto_region 18 with (first | (refine wpList_built (by rfl) 58 _ (by rfl) #[.bool true, .string ⟨#[]⟩, .slice (some ⟨w3.heap.size, 0, none⟩) x.length d4, .slice none 0 0] (by kernel_rfl) ?_) | (refine wpList_storeB HX4.out (by rfl) 58 _ _ (by rfl) 0 [.bool true, .string ⟨#[]⟩, .slice (some ⟨w3.heap.size, 0, none⟩) x.length d4, .slice none 0 0] (by rfl) (by rfl) (by kernel_rfl) (by show 0 + 4 ≤ 4; decide) (by rfl) ?_; intro w7 hx7 hg7; go_loud (have hf7 : Fr (Rl ρ4 7) w4 w7 := Fr.of_grown hg7 (fun b e => by injection e with e; subst e; exact HR7.out); have HK7 := Lib.hid ((HK4.out.stay hf7).deepS goesStm hf7); have HBx7 := Lib.hid (goesBx.keep HBx4.out hf7.size (fun b e hl => hf7.block b hl (by subst e; show ¬ ρ4 b = 7; rw [HR4.out b (by omega), if_pos rfl]; decide))); have HB7 := Lib.hid (HB4.out.trans (hf7.below (N := w.heap.size) HB4.out.size fun b hb e => by have h9 := HR4.out b (by omega); rw [if_neg (by omega)] at h9; have e : ρ4 b = 7 := e; omega)); have HX7 : Hid (Bx (fun b => b = wr.heap.size) w7 wr.heap.size [.bool true, .string ⟨#[]⟩, .slice (some ⟨w3.heap.size, 0, none⟩) x.length d4, .slice none 0 0]) := Lib.hid hx7; have e17 := hf7.cell (by show ¬ ρ4 b1 = 7; rw [HR4.out b1 (by omega), if_neg (by omega)]; decide) e1; have HST7 := Lib.hid ((goesStm _ _).stay HST.out hf7 (by decide)); have hzz7 := hf7.size; have p21 := HBx7.out.c 21 _ rfl; have z21 := HBx7.out.fr 21; clear hx7 hg7 hf7 e1)))
            clear hcv e13
            by_cases h500 : 500 < x.length
            · go_wp2_with fail
              go_ret
              exact ⟨rfl, HB7.out⟩
            · go_wp2_with (first | (refine wpList_loadB HX7.out (by rfl) 58 _ (by rfl) (by rfl) _ Try.underlying58 rfl (by kernel_rfl) ?_) | (at_builtin; go_loud (refine wpList_appX rfl tyStm _ _ rfl (ρ := ρ4) (r := 4) _ _ _ ((bAll vs ts ps).take j) rfl (HK7.out.after ((Below.refl _ _).alloc (Nat.le_refl _) _)) _ _ _ _ [bStm vs x true] rfl (arr_lit (P := stmP (Rl ρ4 5) w7) _ #[.bool true, .string ⟨#[]⟩, .slice (some ⟨w3.heap.size, 0, none⟩) x.length d4, .slice none 0 0] (bStm vs x true) rfl HST7.out (by first | rfl | simp)) (fun _ _ h => stmP_one _ _ h) (fun _ _ _ h => h) (by omega) (by unfold maxLen; omega) ?_); intro A4 m4 dd4 w5 ρ5 hx5 hown5 hf5; go_loud (have hba : Below w7.heap.size w7 (w7.alloc _) := (Below.refl _ _).alloc (Nat.le_refl _) (.cells #[.bool true, .string ⟨#[]⟩, .slice (some ⟨w3.heap.size, 0, none⟩) x.length d4, .slice none 0 0] 58); have HK5 := Lib.hid (((hown5.deepA goesStm hba).deepx goesStm hf5 hx5).as HL.out.symm); have HBx5 := Lib.hid (goesBx.keep (goesBx.after HBx7.out hba) hf5.size (fun b e hl => hf5.block b hl (by subst e; show ¬ ρ4 b = 4; rw [HR4.out b (by omega), if_pos rfl]; decide))); have HB5 := Lib.hid ((HB7.out.trans (hba.mono HB7.out.size)).trans (hf5.below (N := w.heap.size) (Nat.le_trans HB7.out.size hba.size) fun b hb e => by have h9 := HR4.out b (by omega); rw [if_neg (by omega)] at h9; have e : ρ4 b = 4 := e; omega)); have HR5 : Hid (∀ b, b < w2.heap.size → ρ5 b = if b = X then 8 else 5) := Lib.hid (fun b hb => by rw [hx5, xt_lt (Nat.lt_of_lt_of_le (Nat.lt_of_lt_of_le hb (by omega)) hba.size)]; exact HR4.out b hb); have hsz5 : w7.heap.size ≤ w5.heap.size := Nat.le_trans hba.size hf5.size; have p215 := HBx5.out.c 21 _ rfl; have z215 := HBx5.out.fr 21; clear hx5 hown5 hf5 hba p21 z21)))
              have hset : Fr (Rl ρ5 8) w5 (w5.setCell ⟨X, 21, none⟩ (.slice A4 m4 dd4)) := Fr.set w5 (X := X) (show Rl ρ5 8 X from by show ρ5 X = 8; rw [HR5.out X (by omega), if_pos rfl]) _
              have HK6 := Lib.hid ((HK5.out.stay hset).deepS goesStm hset)
              have HBx6 := Lib.hid (HBx5.out.put 21 (.slice A4 m4 dd4) (by show 21 < 22; decide))
              have HB6 := Lib.hid (HB5.out.trans (hset.below (N := w.heap.size) HB5.out.size fun b hb e => by have h9 := HR5.out b (by omega); rw [if_neg (by omega)] at h9; have e : ρ5 b = 8 := e; omega))
              have hs6 := hset.size
              refine ⟨⟨ρ5, j + 1, A4, m4, dd4, by omega, by go_num, HR5, HK6, HBx6, HB6, by omega, HT2.out (by omega)⟩, by simp [intOf]; omega⟩
        · obtain rfl : j = N := by omega
          have hNl : (bAll vs ts ps).length = j := by rw [bAll_len, ← hl1.out, ← hl2.out, HN.out]
          have hall : (bAll vs ts ps).take j = bAll vs ts ps := List.take_of_length_le (by omega)
          rw [hall] at HK
          obtain rfl : m = j := by have := HK.out.len (by decide); omega
          have HBT : Hid (Bt (kd % 3) ts ps vs) := Lib.hid ⟨by omega, by have := hl1.out; omega, by have := hl2.out; omega, by have := hl3.out; omega, HKS.out, fun i t hi ht => HT.out i t (by have := HN.out; have := hl1.out; have := hl2.out; omega) ht, HV.out⟩
          clear HT hj hlt hNl hall
          rcases HN3.out with e | e
          · have e1 : ¬ m < n1 := by omega
            clear e
            go_wp2_with fail
            go_meet
            exact ⟨ρ, A, d, HK, HBx, HB, HBT⟩
          · have e1 : ¬ m < n2 := by omega
            clear e
            go_wp2_with fail
            all_goals (go_meet; exact ⟨ρ, A, d, HK, HBx, HB, HBT⟩)
end Go.Proofs.Sb
