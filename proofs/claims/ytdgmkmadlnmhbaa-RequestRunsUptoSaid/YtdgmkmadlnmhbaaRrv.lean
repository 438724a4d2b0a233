/- Walk over signalboxref08.getAll. Conditions: lengths up to 2^47. (written by gen_rqref6.py) -/
import Derived.Test.YtdgmkmadlnmhbaaRri
set_option linter.unusedVariables false
set_option linter.unusedSimpArgs false
namespace Sb
theorem glong_le {b x r : B} (h : getLong b = .ok (x, r)) : x.length ≤ b.length := by
  rw [eqLong] at h
  obtain ⟨n, b1, h1, h2⟩ := bindR_inv h
  split at h2
  · cases h2
  · have h3 := (takeN_ok h2).2.1
    have h4 := (getNum_ok h1).2.1
    rw [h3, List.length_take, h4, List.length_drop]
    omega
theorem stm_e1 {cur : B} {e : Int} (h : getN 1 cur = .error e) : getStm cur = .error e := by unfold getStm; exact bindR_err h
theorem stm_e2 {cur c1 : B} {k : Nat} (h : getN 1 cur = .ok (k, c1)) (hk : 1 < k) : getStm cur = .error 11 := by unfold getStm; exact (bindR_ok h).trans (if_pos hk)
theorem stm_a {cur c1 : B} {k : Nat} (h : getN 1 cur = .ok (k, c1)) (hk : ¬ 1 < k) : getStm cur = bindR (if k = 1 then bindR (getText c1) fun s r => .ok ((⟨true, [], s, []⟩ : Stm), r) else bindR (getLong c1) fun s r => .ok ((⟨false, s, [], []⟩ : Stm), r)) fun s b =>
    bindR (getVals false b) fun l b => .ok ({ s with values := l.map (·.2) }, b) := by unfold getStm; exact (bindR_ok h).trans (if_neg hk)
theorem stm_pe {cur c1 : B} {k : Nat} {e : Int} (h : getN 1 cur = .ok (k, c1)) (hk : k = 1) (h2 : getText c1 = .error e) : getStm cur = .error e := by
  rw [stm_a h (by omega), if_pos hk]; exact bindR_err (bindR_err h2)
theorem stm_ne {cur c1 : B} {k : Nat} {e : Int} (h : getN 1 cur = .ok (k, c1)) (hk : k = 0) (h2 : getLong c1 = .error e) : getStm cur = .error e := by
  rw [stm_a h (by omega), if_neg (by omega)]; exact bindR_err (bindR_err h2)
theorem stm_pv {cur c1 c2 s : B} {k : Nat} (h : getN 1 cur = .ok (k, c1)) (hk : k = 1) (h2 : getText c1 = .ok (s, c2)) : getStm cur = bindR (getVals false c2) fun l b => .ok ((⟨true, [], s, l.map (·.2)⟩ : Stm), b) := by
  rw [stm_a h (by omega), if_pos hk]; exact bindR_ok (x := (⟨true, [], s, []⟩ : Stm)) (b := c2) (bindR_ok h2)
theorem stm_nv {cur c1 c2 s : B} {k : Nat} (h : getN 1 cur = .ok (k, c1)) (hk : k = 0) (h2 : getLong c1 = .ok (s, c2)) : getStm cur = bindR (getVals false c2) fun l b => .ok ((⟨false, s, [], l.map (·.2)⟩ : Stm), b) := by
  rw [stm_a h (by omega), if_neg (by omega)]; exact bindR_ok (x := (⟨false, s, [], []⟩ : Stm)) (b := c2) (bindR_ok h2)
end Sb
namespace Go.Proofs.Sb
open Go.RowKit _root_.Sb
set_option maxHeartbeats 1000000 in
set_option maxRecDepth 100000 in
theorem rgetShort8_any {S : Nat → Prop} {A : Option Addr} {m c a : Nat} {bs : B} {w : World} (hs : Sl S w A m c bs) (hm : m ≤ 140737488355328) (ha : a ≤ m) (r : Res B) (hr : getText (bs.drop a) = r) :
    Calls Try.prog 86 #[.slice A m c, .int .i64 (a : Int)] w fun e w' => ∃ q : Nat, e = .returned (.tuple #[.string (str (rval [] r)), .int .i64 (q : Int), .int .i64 (rerr r)]) ∧ AtR bs q r ∧ w = w' := by
  have HR := Lib.hid hr; clear hr
  have HS := Lib.hid hs; clear hs
  go_enter Try.func86, Try.ntmps86
  go_wp2_with fail
  refine (rgetText_any HS.out hm ha r HR.out).mono ?_
  rintro e w1 ⟨q, rfl, hq, rfl⟩
  have HQ := Lib.hid hq; clear hq
  go_wp2_with fail
  go_ret3
  exact ⟨q, rfl, HQ.out, rfl⟩
set_option maxHeartbeats 8000000 in
set_option maxRecDepth 100000 in
theorem rgetAll8_any {S : Nat → Prop} {A : Option Addr} {m c a : Nat} {bs : B} {w : World} (hs : Sl S w A m c bs) (hm : m ≤ 140737488355328) (ha : a ≤ m) (r : Res (List Stm)) (hr : getAll (bs.drop a) = r) :
    Calls Try.prog 89 #[.slice A m c, .int .i64 (a : Int)] w fun e w' => ∃ A1 n1 c1, ∃ q : Nat, e = .returned (.tuple #[.slice A1 n1 c1, .int .i64 (q : Int), .int .i64 (rerr r)]) ∧ Arr 4 (stmRf (fun b => w.heap.size ≤ b) w') (fun b => w.heap.size ≤ b) w' A1 n1 c1 (rval [] r) ∧ AtR bs q r ∧ Below w.heap.size w w' := by
  have HS := Lib.hid hs.lt
  have hlb := Lib.hid hs.len
  have hcp := hs.cap
  have hcm := hs.capMax
  clear hs
  have HR := Lib.hid hr; clear hr
  obtain ⟨rc, hrc⟩ : ∃ rc, getN 2 (bs.drop a) = rc := ⟨_, rfl⟩
  have HRC := Lib.hid hrc; clear hrc
  go_enter Try.func89, Try.ntmps89
  go_wp2_with fail
  refine (rget_any (n := 2) HS.out ha (by decide) (by decide) rc HRC.out).mono ?_
  rintro e w1 ⟨q0, rfl, hq0, rfl⟩
  have HQ0 := Lib.hid hq0; clear hq0
  cases rc with
  | error e =>
    have hne : (e != 0) = true := by rw [getN_err HRC.out]; rfl
    have HE : Hid (r = .error e) := Lib.hid (by rw [← HR.out]; exact bindR_err HRC.out)
    simp only [rval_error, rerr_error]
    go_wp2_with fail
    go_ret3
    rw [HE.out]
    exact ⟨none, 0, 0, 0, rfl, Arr.nil, AtR.err, Below.refl _ _⟩
  | ok p =>
    obtain ⟨N, b0⟩ := p
    have hN := (getN_ok HRC.out).2.2.2
    simp only [Nat.reducePow] at hN
    have HRG : Hid (getsM getStm N b0 = r) := Lib.hid (by rw [← HR.out]; exact (bindR_ok HRC.out).symm)
    simp only [rval_ok, rerr_ok]
    have hq0m : q0 ≤ m := by have := HQ0.out.le; have := hlb.out; omega
    have HD0 := Lib.hid HQ0.out.drop
    clear HQ0
    go_wp2_with fail
    go_loopw [8, 10, 11] (fun tq l i wr => ∃ ρ k q A1 n1 c1 xs cur, k ≤ N ∧ i = .int .u64 (k : Nat) ∧ tq = .int .i64 (q : Nat) ∧ l = .slice A1 n1 c1 ∧ q ≤ m ∧ Hid (getsM getStm k b0 = .ok (xs, cur)) ∧ Hid (bs.drop q = cur) ∧ Hid (xs.length = k) ∧ Hid (OwnS 81 4 (stmRf (Rl ρ 5) wr) (Rl ρ 4) wr A1 n1 c1 xs) ∧ Hid (Bs ρ (fun _ => False) w wr)) (fun _ _ i _ => N - (intOf i).toNat)
    case atStart => exact ⟨xt (fun _ => 0) w.heap.size 5, 0, q0, none, 0, 0, [], b0, by omega, rfl, rfl, rfl, hq0m, rfl, HD0, rfl, OwnS.nil, Lib.hid (Bs.start w 5)⟩
    case round =>
      obtain ⟨ρ, k, q, A1, n1, c1, xs, cur, hk, rfl, rfl, rfl, hqm, HG, HD, HXL, HO, HB⟩ := hrel
      have HBl := Lib.hid HB.out.below
      have hzr := HB.out.size
      by_cases hlt : k < N
      · have hn1 : n1 ≤ 65536 := by have := HO.out.len (by decide); have := HXL.out; omega
        obtain ⟨rk, hrk⟩ : ∃ z, getN 1 cur = z := ⟨_, rfl⟩
        have HRK := Lib.hid hrk; clear hrk
        go_wp2_with fail
        refine (rget_any (n := 1) (a := q) (HS.out.fin (HBl.out.alloc hzr _)) hqm (by decide) (by decide) rk (by rw [HD.out]; exact HRK.out)).mono ?_
        rintro e w2 ⟨q1, rfl, hq1, rfl⟩
        have HQ1 := Lib.hid hq1; clear hq1
        cases rk with
        | error e2 =>
          have hne : (e2 != 0) = true := by rw [getN_err HRK.out]; rfl
          have HE : Hid (r = .error e2) := Lib.hid (HRG.out.symm.trans (getsM_stop hlt HG.out (stm_e1 HRK.out)))
          simp only [rval_error, rerr_error]
          go_wp2_with fail
          go_ret3
          rw [HE.out]
          exact ⟨none, 0, 0, 0, rfl, Arr.nil, AtR.err, HBl.out.alloc hzr _⟩
        | ok ps =>
          obtain ⟨kk, cu1⟩ := ps
          have hq1m : q1 ≤ m := by have := HQ1.out.le; have := hlb.out; omega
          have HD1 := Lib.hid HQ1.out.drop
          clear HQ1
          simp only [rval_ok, rerr_ok]
          by_cases hk1 : 1 < kk
          · have HE : Hid (r = .error 11) := Lib.hid (HRG.out.symm.trans (getsM_stop hlt HG.out (stm_e2 HRK.out hk1)))
            go_wp2_with fail
            go_ret3
            rw [HE.out]
            exact ⟨none, 0, 0, 0, rfl, Arr.nil, AtR.err, HBl.out.alloc hzr _⟩
          · obtain ⟨ρ', hρ'⟩ : ∃ ρ', ρ' = xt (xt ρ wr.heap.size 7) (wr.heap.size + 1) 5 := ⟨_, rfl⟩
            have hbA : Below wr.heap.size wr (wr.alloc (.cells #[.bool false, .string ⟨#[]⟩, .string ⟨#[]⟩, .slice none 0 0] 81)) := (Below.refl _ _).alloc (Nat.le_refl _) _
            have HX1 : Hid (Bx (Rl ρ' 7) (wr.alloc (.cells #[.bool false, .string ⟨#[]⟩, .string ⟨#[]⟩, .slice none 0 0] 81)) wr.heap.size [.bool false, .string ⟨#[]⟩, .string ⟨#[]⟩, .slice none 0 0]) := Lib.hid (Bx.alloc wr #[.bool false, .string ⟨#[]⟩, .string ⟨#[]⟩, .slice none 0 0] 81 (by rw [hρ']; exact two_at))
            have HO1 : Hid (OwnS 81 4 (stmRf (Rl ρ' 5) (wr.alloc (.cells #[.bool false, .string ⟨#[]⟩, .string ⟨#[]⟩, .slice none 0 0] 81))) (Rl ρ' 4) (wr.alloc (.cells #[.bool false, .string ⟨#[]⟩, .string ⟨#[]⟩, .slice none 0 0] 81)) A1 n1 c1 xs) := Lib.hid (by rw [hρ']; exact (HO.out.two hbA 7 5).deep2 goesStmRf hbA 7 5)
            have HB1 : Hid (Bs ρ' (fun _ => False) w (wr.alloc (.cells #[.bool false, .string ⟨#[]⟩, .string ⟨#[]⟩, .slice none 0 0] 81))) := Lib.hid (by rw [hρ']; exact HB.out.two hbA 7 5)
            have HGE : Hid (∀ b, wr.heap.size + 1 ≤ b → ρ' b = 5) := Lib.hid (fun b hb => by rw [hρ']; exact two_ge hb)
            obtain ⟨w2, hw2⟩ : ∃ w2, w2 = wr.alloc (.cells #[.bool false, .string ⟨#[]⟩, .string ⟨#[]⟩, .slice none 0 0] 81) := ⟨_, rfl⟩
            obtain ⟨X, hX⟩ : ∃ X, X = wr.heap.size := ⟨_, rfl⟩
            rw [← hw2] at HX1 HO1 HB1 ⊢
            rw [← hX] at HX1 HGE ⊢
            clear hw2 hX hρ' hbA HO HB
            have hX2 : X < w2.heap.size := HX1.out.lt
            have f0 := HX1.out.fr 0
            have k0 := HX1.out.c 0 _ rfl
            have HBl2 := Lib.hid HB1.out.below
            have hz2 := HB1.out.size
            have hXw : w.heap.size ≤ X := HB1.out.ge (r := 7) HX1.out.role (by decide)
            by_cases hkk : kk = 1
            · have hd1 : ((kk : Int) == 1) = true := by rw [beq_iff_eq]; omega
              have HK1 : Hid (kk = 1) := Lib.hid (by omega)
              clear hkk
              obtain ⟨rt, hrt⟩ : ∃ z, getText cu1 = z := ⟨_, rfl⟩
              have HRT := Lib.hid hrt; clear hrt
              have HX2 : Hid (Bx (Rl ρ' 7) (w2.setCell ⟨X, 0, none⟩ (.bool true)) X [.bool true, .string ⟨#[]⟩, .string ⟨#[]⟩, .slice none 0 0]) := Lib.hid (HX1.out.put 0 _ (by show 0 < 4; decide))
              have HF2 : Hid (Fr (Rl ρ' 7) w2 (w2.setCell ⟨X, 0, none⟩ (.bool true))) := Lib.hid (HX1.out.frPut 0 _)
              have HBl3 := Lib.hid (HB1.out.stay HF2.out).below
              have k0' := HX2.out.c 0 _ rfl
              clear hd1
              have hd1 : ((kk : Int) == 1) = true := by first | (rw [beq_iff_eq]; have := HK1.out; omega) | (rw [beq_eq_false_iff_ne]; have := HK1.out; omega)
              go_wp2_with fail
              refine (rgetShort8_any (a := q1) (HS.out.fin HBl3.out) hm hq1m rt (by rw [HD1.out]; exact HRT.out)).mono ?_
              rintro e w3 ⟨q2, rfl, hq2, rfl⟩
              obtain ⟨w3, hw3⟩ : ∃ w3, w3 = w2.setCell ⟨X, 0, none⟩ (.bool true) := ⟨_, rfl⟩
              rw [← hw3] at HX2 HF2 HBl3 ⊢
              clear hw3
              have HO3 := Lib.hid ((HO1.out.stay HF2.out).deepS goesStmRf HF2.out)
              have HB3 := Lib.hid (HB1.out.stay HF2.out)
              have HX3 := HX2
              have HQ2 := Lib.hid hq2; clear hq2
              clear k0 k0' f0 HX2 HF2 HBl3 HO1 HX1 HB1 HBl2 hd1
              have hX3 : X < w3.heap.size := HX3.out.lt
              have f2 := HX3.out.fr 2
              have k2 := HX3.out.c 2 _ rfl
              have hz3 := HB3.out.size
              cases rt with
              | error e3 =>
                have hne : (e3 != 0) = true := by simpa using nzText _ _ HRT.out
                have HE : Hid (r = .error e3) := Lib.hid (HRG.out.symm.trans (getsM_stop hlt HG.out (stm_pe HRK.out HK1.out HRT.out)))
                have HBe := Lib.hid (HB3.out.stay (HX3.out.frPut 2 (.string (str ([] : B))))).below
                simp only [rval_error, rerr_error]
                go_wp2_with fail
                go_ret3
                rw [HE.out]
                exact ⟨none, 0, 0, 0, rfl, Arr.nil, AtR.err, HBe.out⟩
              | ok pt =>
                obtain ⟨s, cu2⟩ := pt
                have hq2m : q2 ≤ m := by have := HQ2.out.le; have := hlb.out; omega
                have HD2 := Lib.hid HQ2.out.drop
                clear HQ2
                have hsl : s.length ≤ 9223372036854775807 := by
                  have := (getText_ok HRT.out).1; omega
                simp only [rval_ok, rerr_ok]
                obtain ⟨rv, hrv⟩ : ∃ z, getVals false cu2 = z := ⟨_, rfl⟩
                have HRV := Lib.hid hrv; clear hrv
                have HX4 : Hid (Bx (Rl ρ' 7) (w3.setCell ⟨X, 2, none⟩ (.string (str s))) X [.bool true, .string ⟨#[]⟩, .string (str s), .slice none 0 0]) := Lib.hid (HX3.out.put 2 _ (by show 2 < 4; decide))
                have HF4 : Hid (Fr (Rl ρ' 7) w3 (w3.setCell ⟨X, 2, none⟩ (.string (str s)))) := Lib.hid (HX3.out.frPut 2 _)
                have HB4 := Lib.hid (HB3.out.stay HF4.out)
                have HO4 := Lib.hid ((HO3.out.stay HF4.out).deepS goesStmRf HF4.out)
                go_wp2_with fail
                clear f2 k2
                obtain ⟨w4, hw4⟩ : ∃ w4, w4 = w3.setCell ⟨X, 2, none⟩ (.string (str s)) := ⟨_, rfl⟩
                rw [← hw4] at HX4 HF4 HB4 HO4 ⊢
                clear hw4 HX3 HF4 HB3 HO3
                have HBl4 := Lib.hid HB4.out.below
                have hX4 : X < w4.heap.size := HX4.out.lt
                refine (rgetVals8_false (a := q2) (HS.out.fin HBl4.out) hm hq2m rv (by rw [HD2.out]; exact HRV.out)).mono ?_
                rintro e w5 ⟨B1, u1, v1, B2, u2, v2, q3, rfl, hrr, hq3, hb5⟩
                have HQ3 := Lib.hid hq3; clear hq3
                have HV5 : Hid (Arr 2 valRf (Rl ρ' 5) w5 B1 u1 v1 ((rval [] rv).map (·.2))) := Lib.hid (goesArr.mono hrr.values fun b hb _ => HGE.out b (by have hb : w4.heap.size ≤ b := hb; omega))
                have HO5 := Lib.hid ((HO4.out.after hb5).deepA goesStmRf hb5)
                have HB5 := Lib.hid (HB4.out.after hb5)
                have HX5 := Lib.hid (goesBx.after HX4.out hb5)
                clear hrr hb5 HX4 HO4 HB4
                have hX5 : X < w5.heap.size := HX5.out.lt
                have f3 := HX5.out.fr 3
                have k3 := HX5.out.c 3 _ rfl
                cases rv with
                | error e3 =>
                  have hne : (e3 != 0) = true := by simpa using nzVals _ _ _ HRV.out
                  have HE : Hid (r = .error e3) := Lib.hid (HRG.out.symm.trans (getsM_stop hlt HG.out ((stm_pv HRK.out HK1.out HRT.out).trans (bindR_err HRV.out))))
                  have HBe := Lib.hid (HB5.out.stay (HX5.out.frPut 3 (.slice B1 u1 v1))).below
                  simp only [rval_error, rerr_error]
                  go_wp2_with fail
                  go_ret3
                  rw [HE.out]
                  exact ⟨none, 0, 0, 0, rfl, Arr.nil, AtR.err, HBe.out⟩
                | ok pv =>
                  obtain ⟨l, cu3⟩ := pv
                  have hq3m : q3 ≤ m := by have := HQ3.out.le; have := hlb.out; omega
                  have HD3 := Lib.hid HQ3.out.drop
                  clear HQ3
                  have HIT : Hid (getStm cur = .ok ((⟨true, [], s, l.map (·.2)⟩ : Stm), cu3)) := Lib.hid ((stm_pv HRK.out HK1.out HRT.out).trans (bindR_ok HRV.out))
                  simp only [rval_ok, rerr_ok]
                  have HX6 : Hid (Bx (Rl ρ' 7) (w5.setCell ⟨X, 3, none⟩ (.slice B1 u1 v1)) X [.bool true, .string ⟨#[]⟩, .string (str s), .slice B1 u1 v1]) := Lib.hid (HX5.out.put 3 _ (by show 3 < 4; decide))
                  have HF6 : Hid (Fr (Rl ρ' 7) w5 (w5.setCell ⟨X, 3, none⟩ (.slice B1 u1 v1))) := Lib.hid (HX5.out.frPut 3 _)
                  have HB6 := Lib.hid (HB5.out.stay HF6.out)
                  have HO6 := Lib.hid ((HO5.out.stay HF6.out).deepS goesStmRf HF6.out)
                  have HV6 := Lib.hid (HV5.out.stay HF6.out)
                  go_upto_region 24 with fail
                  clear f3 k3
                  obtain ⟨w6, hw6⟩ : ∃ w6, w6 = w5.setCell ⟨X, 3, none⟩ (.slice B1 u1 v1) := ⟨_, rfl⟩
                  rw [← hw6] at HX6 HF6 HB6 HO6 HV6 ⊢
                  clear hw6 HX5 HF6 HB5 HO5 HV5
                  have hX6 : X < w6.heap.size := HX6.out.lt
                  have hz6 := HB6.out.size
                  go_wp2_with (first | (refine wpList_loadB HX6.out (by rfl) 81 _ (by rfl) (by rfl) _ Try.underlying81 rfl (by kernel_rfl) ?_) | (at_builtin; refine wpList_appX rfl tyS8 _ _ rfl (ρ := ρ') (r := 4) _ _ _ xs rfl (HO6.out.after ((Below.refl _ _).alloc (Nat.le_refl _) _)) _ _ _ _ [⟨true, [], s, l.map (·.2)⟩] rfl (arr_lit (P := stmRf (Rl ρ' 5) w6) _ #[.bool true, .string ⟨#[]⟩, .string (str s), .slice B1 u1 v1] (⟨true, [], s, l.map (·.2)⟩ : Stm) rfl ⟨B1, u1, v1, rfl, by first | exact hsl | exact Nat.zero_le _, by first | exact hsl | exact Nat.zero_le _, HV6.out⟩ (by simp)) (fun _ _ h => stmRf_one _ _ h) (fun _ _ _ h => h) (by omega) (by unfold maxLen; omega) ?_; intro A7 m7 d7 w7 ρ7 hx7 hown7 hf7; have hbb : Below w6.heap.size w6 (w6.alloc (.cells #[.bool true, .string ⟨#[]⟩, .string (str s), .slice B1 u1 v1] 81)) := (Below.refl _ _).alloc (Nat.le_refl _) _; have HK7 := Lib.hid ((hown7.deepA goesStmRf hbb).deepx goesStmRf hf7 hx7); have HB7 := Lib.hid ((HB6.out.after hbb).stepx hf7 hx7); clear hx7 hown7 hf7 hbb))
                  refine ⟨⟨ρ7, k + 1, q3, A7, _, d7, xs ++ [⟨true, [], s, l.map (·.2)⟩], cu3, by omega, by go_num, rfl, rfl, hq3m, Lib.hid (getsM_snoc HG.out HIT.out), HD3, Lib.hid (by rw [List.length_append, HXL.out]; rfl), HK7, HB7⟩, by simp [intOf]; omega⟩
            · have hd1 : ((kk : Int) == 1) = false := by rw [beq_eq_false_iff_ne]; omega
              have HK1 : Hid (kk = 0) := Lib.hid (by omega)
              clear hkk
              obtain ⟨rt, hrt⟩ : ∃ z, getLong cu1 = z := ⟨_, rfl⟩
              have HRT := Lib.hid hrt; clear hrt
              have HX2 : Hid (Bx (Rl ρ' 7) (w2.setCell ⟨X, 0, none⟩ (.bool false)) X [.bool false, .string ⟨#[]⟩, .string ⟨#[]⟩, .slice none 0 0]) := Lib.hid (HX1.out.put 0 _ (by show 0 < 4; decide))
              have HF2 : Hid (Fr (Rl ρ' 7) w2 (w2.setCell ⟨X, 0, none⟩ (.bool false))) := Lib.hid (HX1.out.frPut 0 _)
              have HBl3 := Lib.hid (HB1.out.stay HF2.out).below
              have k0' := HX2.out.c 0 _ rfl
              clear hd1
              have hd1 : ((kk : Int) == 1) = false := by first | (rw [beq_iff_eq]; have := HK1.out; omega) | (rw [beq_eq_false_iff_ne]; have := HK1.out; omega)
              go_wp2_with fail
              refine (rgetLong_any (a := q1) (HS.out.fin HBl3.out) hm hq1m rt (by rw [HD1.out]; exact HRT.out)).mono ?_
              rintro e w3 ⟨q2, rfl, hq2, hb3⟩
              have HO3 := Lib.hid (((HO1.out.stay HF2.out).deepS goesStmRf HF2.out).after hb3 |>.deepA goesStmRf hb3)
              have HB3 := Lib.hid ((HB1.out.stay HF2.out).after hb3)
              have HX3 := Lib.hid (goesBx.after HX2.out hb3)
              clear hb3
              have HQ2 := Lib.hid hq2; clear hq2
              clear k0 k0' f0 HX2 HF2 HBl3 HO1 HX1 HB1 HBl2 hd1
              have hX3 : X < w3.heap.size := HX3.out.lt
              have f2 := HX3.out.fr 1
              have k2 := HX3.out.c 1 _ rfl
              have hz3 := HB3.out.size
              cases rt with
              | error e3 =>
                have hne : (e3 != 0) = true := by simpa using nzLong _ _ HRT.out
                have HE : Hid (r = .error e3) := Lib.hid (HRG.out.symm.trans (getsM_stop hlt HG.out (stm_ne HRK.out HK1.out HRT.out)))
                have HBe := Lib.hid (HB3.out.stay (HX3.out.frPut 1 (.string (str ([] : B))))).below
                simp only [rval_error, rerr_error]
                go_wp2_with fail
                go_ret3
                rw [HE.out]
                exact ⟨none, 0, 0, 0, rfl, Arr.nil, AtR.err, HBe.out⟩
              | ok pt =>
                obtain ⟨s, cu2⟩ := pt
                have hq2m : q2 ≤ m := by have := HQ2.out.le; have := hlb.out; omega
                have HD2 := Lib.hid HQ2.out.drop
                clear HQ2
                have hsl : s.length ≤ 9223372036854775807 := by
                  have h1 := glong_le HRT.out; have h2 := congrArg List.length HD1.out; rw [List.length_drop] at h2; have := hlb.out; omega
                simp only [rval_ok, rerr_ok]
                obtain ⟨rv, hrv⟩ : ∃ z, getVals false cu2 = z := ⟨_, rfl⟩
                have HRV := Lib.hid hrv; clear hrv
                have HX4 : Hid (Bx (Rl ρ' 7) (w3.setCell ⟨X, 1, none⟩ (.string (str s))) X [.bool false, .string (str s), .string ⟨#[]⟩, .slice none 0 0]) := Lib.hid (HX3.out.put 1 _ (by show 1 < 4; decide))
                have HF4 : Hid (Fr (Rl ρ' 7) w3 (w3.setCell ⟨X, 1, none⟩ (.string (str s)))) := Lib.hid (HX3.out.frPut 1 _)
                have HB4 := Lib.hid (HB3.out.stay HF4.out)
                have HO4 := Lib.hid ((HO3.out.stay HF4.out).deepS goesStmRf HF4.out)
                go_wp2_with fail
                clear f2 k2
                obtain ⟨w4, hw4⟩ : ∃ w4, w4 = w3.setCell ⟨X, 1, none⟩ (.string (str s)) := ⟨_, rfl⟩
                rw [← hw4] at HX4 HF4 HB4 HO4 ⊢
                clear hw4 HX3 HF4 HB3 HO3
                have HBl4 := Lib.hid HB4.out.below
                have hX4 : X < w4.heap.size := HX4.out.lt
                refine (rgetVals8_false (a := q2) (HS.out.fin HBl4.out) hm hq2m rv (by rw [HD2.out]; exact HRV.out)).mono ?_
                rintro e w5 ⟨B1, u1, v1, B2, u2, v2, q3, rfl, hrr, hq3, hb5⟩
                have HQ3 := Lib.hid hq3; clear hq3
                have HV5 : Hid (Arr 2 valRf (Rl ρ' 5) w5 B1 u1 v1 ((rval [] rv).map (·.2))) := Lib.hid (goesArr.mono hrr.values fun b hb _ => HGE.out b (by have hb : w4.heap.size ≤ b := hb; omega))
                have HO5 := Lib.hid ((HO4.out.after hb5).deepA goesStmRf hb5)
                have HB5 := Lib.hid (HB4.out.after hb5)
                have HX5 := Lib.hid (goesBx.after HX4.out hb5)
                clear hrr hb5 HX4 HO4 HB4
                have hX5 : X < w5.heap.size := HX5.out.lt
                have f3 := HX5.out.fr 3
                have k3 := HX5.out.c 3 _ rfl
                cases rv with
                | error e3 =>
                  have hne : (e3 != 0) = true := by simpa using nzVals _ _ _ HRV.out
                  have HE : Hid (r = .error e3) := Lib.hid (HRG.out.symm.trans (getsM_stop hlt HG.out ((stm_nv HRK.out HK1.out HRT.out).trans (bindR_err HRV.out))))
                  have HBe := Lib.hid (HB5.out.stay (HX5.out.frPut 3 (.slice B1 u1 v1))).below
                  simp only [rval_error, rerr_error]
                  go_wp2_with fail
                  go_ret3
                  rw [HE.out]
                  exact ⟨none, 0, 0, 0, rfl, Arr.nil, AtR.err, HBe.out⟩
                | ok pv =>
                  obtain ⟨l, cu3⟩ := pv
                  have hq3m : q3 ≤ m := by have := HQ3.out.le; have := hlb.out; omega
                  have HD3 := Lib.hid HQ3.out.drop
                  clear HQ3
                  have HIT : Hid (getStm cur = .ok ((⟨false, s, [], l.map (·.2)⟩ : Stm), cu3)) := Lib.hid ((stm_nv HRK.out HK1.out HRT.out).trans (bindR_ok HRV.out))
                  simp only [rval_ok, rerr_ok]
                  have HX6 : Hid (Bx (Rl ρ' 7) (w5.setCell ⟨X, 3, none⟩ (.slice B1 u1 v1)) X [.bool false, .string (str s), .string ⟨#[]⟩, .slice B1 u1 v1]) := Lib.hid (HX5.out.put 3 _ (by show 3 < 4; decide))
                  have HF6 : Hid (Fr (Rl ρ' 7) w5 (w5.setCell ⟨X, 3, none⟩ (.slice B1 u1 v1))) := Lib.hid (HX5.out.frPut 3 _)
                  have HB6 := Lib.hid (HB5.out.stay HF6.out)
                  have HO6 := Lib.hid ((HO5.out.stay HF6.out).deepS goesStmRf HF6.out)
                  have HV6 := Lib.hid (HV5.out.stay HF6.out)
                  go_upto_region 24 with fail
                  clear f3 k3
                  obtain ⟨w6, hw6⟩ : ∃ w6, w6 = w5.setCell ⟨X, 3, none⟩ (.slice B1 u1 v1) := ⟨_, rfl⟩
                  rw [← hw6] at HX6 HF6 HB6 HO6 HV6 ⊢
                  clear hw6 HX5 HF6 HB5 HO5 HV5
                  have hX6 : X < w6.heap.size := HX6.out.lt
                  have hz6 := HB6.out.size
                  go_wp2_with (first | (refine wpList_loadB HX6.out (by rfl) 81 _ (by rfl) (by rfl) _ Try.underlying81 rfl (by kernel_rfl) ?_) | (at_builtin; refine wpList_appX rfl tyS8 _ _ rfl (ρ := ρ') (r := 4) _ _ _ xs rfl (HO6.out.after ((Below.refl _ _).alloc (Nat.le_refl _) _)) _ _ _ _ [⟨false, s, [], l.map (·.2)⟩] rfl (arr_lit (P := stmRf (Rl ρ' 5) w6) _ #[.bool false, .string (str s), .string ⟨#[]⟩, .slice B1 u1 v1] (⟨false, s, [], l.map (·.2)⟩ : Stm) rfl ⟨B1, u1, v1, rfl, by first | exact hsl | exact Nat.zero_le _, by first | exact hsl | exact Nat.zero_le _, HV6.out⟩ (by simp)) (fun _ _ h => stmRf_one _ _ h) (fun _ _ _ h => h) (by omega) (by unfold maxLen; omega) ?_; intro A7 m7 d7 w7 ρ7 hx7 hown7 hf7; have hbb : Below w6.heap.size w6 (w6.alloc (.cells #[.bool false, .string (str s), .string ⟨#[]⟩, .slice B1 u1 v1] 81)) := (Below.refl _ _).alloc (Nat.le_refl _) _; have HK7 := Lib.hid ((hown7.deepA goesStmRf hbb).deepx goesStmRf hf7 hx7); have HB7 := Lib.hid ((HB6.out.after hbb).stepx hf7 hx7); clear hx7 hown7 hf7 hbb))
                  refine ⟨⟨ρ7, k + 1, q3, A7, _, d7, xs ++ [⟨false, s, [], l.map (·.2)⟩], cu3, by omega, by go_num, rfl, rfl, hq3m, Lib.hid (getsM_snoc HG.out HIT.out), HD3, Lib.hid (by rw [List.length_append, HXL.out]; rfl), HK7, HB7⟩, by simp [intOf]; omega⟩
      · obtain rfl : k = N := by omega
        have HE : Hid (r = .ok (xs, cur)) := Lib.hid (HRG.out.symm.trans HG.out)
        go_wp2_with fail
        go_ret3
        rw [HE.out]
        exact ⟨A1, n1, c1, q, rfl, ((HO.out.arr (by decide)).mono fun b hb _ => HB.out.ge hb (by decide)).imp fun x _ v hp => (goesStmRf x v).mono hp fun b hb _ => HB.out.ge hb (by decide), AtR.ok (by have := hlb.out; omega) HD.out, HBl.out⟩
end Go.Proofs.Sb
