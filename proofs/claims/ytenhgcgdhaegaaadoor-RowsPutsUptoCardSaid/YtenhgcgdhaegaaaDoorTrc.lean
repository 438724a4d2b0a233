/- Walk over signalboxref10.Columns. Conditions: lengths up to 2^47. (written by gen_trc.py) -/
import Derived.Test.YtenhgcgdhaegaaaDoorTrb
import Derived.Test.YtenhgcgdhaegaaaDoorOptu
set_option linter.unusedVariables false
set_option linter.unusedSimpArgs false
namespace Go.Proofs.Sb
open Go.RowKit _root_.Sb
theorem places_e1 {n : Nat} {b : B} {e : Int} (h : getCnt b = .error e) : optR true [] (placesR n) b = .error e := by show placesR n b = _; unfold placesR; exact bindR_err h
theorem places_e2 {n m : Nat} {b b1 : B} {e : Int} (h : getCnt b = .ok (m, b1)) (h2 : getsM (getN 2) m b1 = .error e) : optR true [] (placesR n) b = .error e := by show placesR n b = _; unfold placesR; rw [bindR_ok h]; exact bindR_err h2
theorem places_o {n m : Nat} {b b1 b2 : B} {l : List Nat} (h : getCnt b = .ok (m, b1)) (h2 : getsM (getN 2) m b1 = .ok (l, b2)) : optR true [] (placesR n) b = if (l.any fun z => decide (n ≤ z)) = true then .error 11 else .ok (l, b2) := by
  have hall : (l.all fun k => decide (k < n)) = !(l.any fun k => decide (n ≤ k)) := by
    rw [List.not_any_eq_all_not]
    congr 1
    funext k
    by_cases h : k < n
    · rw [decide_eq_true h, decide_eq_false (by omega)]; rfl
    · rw [decide_eq_false h, decide_eq_true (by omega)]; rfl
  show placesR n b = _
  unfold placesR
  rw [bindR_ok h, bindR_ok h2, hall]
  cases (l.any fun z => decide (n ≤ z)) <;> rfl
theorem nms_le2 {b b2 : B} {s t : B} (h : nmsR b = .ok ((s, t), b2)) : s.length ≤ 65535 ∧ t.length ≤ 65535 := by
  cases h1 : getText b with
  | error e => rw [nmsT_err1 h1] at h; cases h
  | ok p =>
    obtain ⟨s1, b1⟩ := p
    rw [nmsT_ok1 h1] at h
    cases h2 : getText b1 with
    | error e => rw [bindR_err h2] at h; cases h
    | ok p =>
      obtain ⟨t1, b3⟩ := p
      rw [bindR_ok h2] at h
      cases h
      have l1 := gtext_le (.ok b); rw [gV_ok h1] at l1
      have l2 := gtext_le (.ok b1); rw [gV_ok h2] at l2
      exact ⟨l1, l2⟩
theorem nms_leO {c : Bool} {b b2 : B} {s t s0 t0 : B} (h0 : s0.length ≤ 65535 ∧ t0.length ≤ 65535) (h : optR c (s0, t0) nmsR b = .ok ((s, t), b2)) : s.length ≤ 65535 ∧ t.length ≤ 65535 := by
  cases c with
  | true => exact nms_le2 h
  | false => cases h; exact h0
set_option maxHeartbeats 8000000 in
set_option maxRecDepth 100000 in
theorem rcols10_any {S : Nat → Prop} {A : Option Addr} {m c0 a : Nat} {bs : B} {w : World} {keys : Bool} (hs : Sl S w A m c0 bs) (hm : m ≤ 140737488355328) (ha : a ≤ m) (r : Res (Tb × List Nat)) (hr : colsR keys (bs.drop a) = r) :
    Calls Tryd.prog 27 #[.slice A m c0, .int .i64 (a : Int), .bool keys] w fun e w' => RColsPost bs w r e w' := by
  have HS := Lib.hid hs.lt
  have hlb := Lib.hid hs.len
  clear hs
  have HR := Lib.hid hr; clear hr
  obtain ⟨r1, hr1⟩ : ∃ z, getNum (bs.drop a) = z := ⟨_, rfl⟩
  have HR1 := Lib.hid hr1; clear hr1
  go_enter Tryd.func27, Tryd.ntmps27
  go_upto_region 3 with fail
  obtain ⟨ρ, i0⟩ := CR.start (t1 := 38) (t2 := 38) w
  obtain ⟨w2, hw2⟩ : ∃ w2, w2 = (w.alloc (.cells #[.int .i64 0, .slice none 0 0, .bool false, .int .i64 0, .string ⟨#[]⟩, .slice none 0 0] 38)).alloc (.cells #[.int .i64 0, .slice none 0 0, .bool false, .int .i64 0, .string ⟨#[]⟩, .slice none 0 0] 38) := ⟨_, rfl⟩
  rw [← hw2]
  have I0 : Hid (CR w w.heap.size (w.heap.size + 1) [.int .i64 0, .slice none 0 0, .bool false, .int .i64 0, .string ⟨#[]⟩, .slice none 0 0] Pl3.none [] Pl3.none [] ρ w2) := by rw [hw2]; exact i0
  clear i0 hw2
  go_wp2_with fail
  refine (rnumber_any (HS.out.fin I0.out.bs.below) ha r1 HR1.out).mono ?_
  rintro e w3 ⟨q0, rfl, hq0, hb3⟩
  obtain ⟨ρ3, hx3, i3⟩ := I0.out.belowE hb3 6
  have I3 := Lib.hid i3
  clear i3 hx3 hb3 I0
  have HQ0 := Lib.hid hq0; clear hq0
  cases r1 with
  | error e =>
    have hne : (e != 0) = true := by simpa using nzNum _ _ HR1.out
    have HE : Hid (r = .error e) := by have h := HR.out; unfold colsR at h; rw [bindR_err HR1.out] at h; exact h.symm
    simp only [rval_error, rerr_error]
    go_wp2_with (first | (refine wpList_loadB I3.out.t (by rfl) 38 _ (by rfl) (by rfl) _ Tryd.underlying38 rfl (by kernel_rfl) ?_) | (refine wpList_storeB I3.out.r (by rfl) 38 _ _ (by rfl) 0 ([.int .i64 0, .slice none 0 0, .bool false, .int .i64 0, .string ⟨#[]⟩, .slice none 0 0]) (by rfl) (by rfl) (by kernel_rfl) (by show 0 + 6 ≤ 6; decide) (by rfl) ?_; intro wz hxz hgz; have HXZ : Hid (Bx (Rl ρ3 2) wz w.heap.size ([.int .i64 0, .slice none 0 0, .bool false, .int .i64 0, .string ⟨#[]⟩, .slice none 0 0])) := Lib.hid hxz; have HGZ := Lib.hid hgz; clear hxz hgz))
    refine bodyPost_ret (results_boxT4 (vs := [.int .i64 0, .slice none 0 0, .bool false, .int .i64 0, .string ⟨#[]⟩, .slice none 0 0]) rfl HXZ.out (by rfl) (by rfl) (by rfl) (by rfl) _ Tryd.underlying38 rfl (by kernel_rfl)) rfl ?_
    exact I3.out.err HGZ.out HE.out (n := 0) (c := Pl3.none) (more := false) (v := Val.none) (by omega) (by omega)
  | ok p =>
    obtain ⟨f, b1⟩ := p
    have hq0m : q0 ≤ m := by have := HQ0.out.le; have := hlb.out; omega
    have HD0 := Lib.hid HQ0.out.drop
    clear HQ0
    have HR2 : Hid ((if flagsT f = false then .error 21 else bindR (getCnt b1) fun n b => bindR (optR keys [] (placesR n) b) fun l b => bindR (optR (bitB f.toNat 1) Val.none getValue b) fun st b => bindR (colsT f.toNat n b) fun cs b => (.ok ((mkT n cs (bitB f.toNat 1) st, l), b) : Res (Tb × List Nat))) = r) := by have h := HR.out; unfold colsR at h; rw [bindR_ok HR1.out] at h; exact h
    have hf1 := (getNum_ok HR1.out).2.2.1
    have hf2 := (getNum_ok HR1.out).2.2.2.1
    clear HR
    simp only [rval_ok, rerr_ok]
    by_cases hfl : ¬ (0 ≤ f ∧ f ≤ 7)
    · have HE : Hid (r = .error 21) := by have h := HR2.out; rw [if_pos (show flagsT f = false from decide_eq_false hfl)] at h; exact h.symm
      by_cases h0 : f < 0
      · have d0 : decide (f < 0) = true := decide_eq_true h0
        go_wp2_with (first | (refine wpList_loadB I3.out.t (by rfl) 38 _ (by rfl) (by rfl) _ Tryd.underlying38 rfl (by kernel_rfl) ?_) | (refine wpList_storeB I3.out.r (by rfl) 38 _ _ (by rfl) 0 ([.int .i64 0, .slice none 0 0, .bool false, .int .i64 0, .string ⟨#[]⟩, .slice none 0 0]) (by rfl) (by rfl) (by kernel_rfl) (by show 0 + 6 ≤ 6; decide) (by rfl) ?_; intro wz hxz hgz; have HXZ : Hid (Bx (Rl ρ3 2) wz w.heap.size ([.int .i64 0, .slice none 0 0, .bool false, .int .i64 0, .string ⟨#[]⟩, .slice none 0 0])) := Lib.hid hxz; have HGZ := Lib.hid hgz; clear hxz hgz))
        refine bodyPost_ret (results_boxT4 (vs := [.int .i64 0, .slice none 0 0, .bool false, .int .i64 0, .string ⟨#[]⟩, .slice none 0 0]) rfl HXZ.out (by rfl) (by rfl) (by rfl) (by rfl) _ Tryd.underlying38 rfl (by kernel_rfl)) rfl ?_
        exact I3.out.err HGZ.out HE.out (n := 0) (c := Pl3.none) (more := false) (v := Val.none) (by omega) (by omega)
      · have d0 : decide (f < 0) = false := decide_eq_false h0
        have d7 : decide (7 < f) = true := decide_eq_true (by omega)
        go_wp2_with (first | (refine wpList_loadB I3.out.t (by rfl) 38 _ (by rfl) (by rfl) _ Tryd.underlying38 rfl (by kernel_rfl) ?_) | (refine wpList_storeB I3.out.r (by rfl) 38 _ _ (by rfl) 0 ([.int .i64 0, .slice none 0 0, .bool false, .int .i64 0, .string ⟨#[]⟩, .slice none 0 0]) (by rfl) (by rfl) (by kernel_rfl) (by show 0 + 6 ≤ 6; decide) (by rfl) ?_; intro wz hxz hgz; have HXZ : Hid (Bx (Rl ρ3 2) wz w.heap.size ([.int .i64 0, .slice none 0 0, .bool false, .int .i64 0, .string ⟨#[]⟩, .slice none 0 0])) := Lib.hid hxz; have HGZ := Lib.hid hgz; clear hxz hgz))
        refine bodyPost_ret (results_boxT4 (vs := [.int .i64 0, .slice none 0 0, .bool false, .int .i64 0, .string ⟨#[]⟩, .slice none 0 0]) rfl HXZ.out (by rfl) (by rfl) (by rfl) (by rfl) _ Tryd.underlying38 rfl (by kernel_rfl)) rfl ?_
        exact I3.out.err HGZ.out HE.out (n := 0) (c := Pl3.none) (more := false) (v := Val.none) (by omega) (by omega)
    · obtain ⟨x, rfl⟩ : ∃ x : Nat, f = (x : Int) := ⟨f.toNat, by omega⟩
      have hx7 : x ≤ 7 := by omega
      have d0 : decide ((x : Int) < 0) = false := decide_eq_false (by omega)
      have d7 : decide (7 < (x : Int)) = false := decide_eq_false (by omega)
      have HR3 : Hid ((bindR (getCnt b1) fun n b => bindR (optR keys [] (placesR n) b) fun l b => bindR (optR (bitB x 1) Val.none getValue b) fun st b => bindR (colsT x n b) fun cs b => (.ok ((mkT n cs (bitB x 1) st, l), b) : Res (Tb × List Nat))) = r) := by have h := HR2.out; rw [if_neg (show ¬ flagsT (x : Int) = false from by unfold flagsT; rw [decide_eq_true (by omega)]; decide)] at h; exact h
      clear HR2 hfl hf1 hf2
      obtain ⟨r2, hr2⟩ : ∃ z, getCnt b1 = z := ⟨_, rfl⟩
      have HRC := Lib.hid hr2; clear hr2
      go_wp2_with fail
      refine (rcnt10_any (HS.out.fin I3.out.bs.below) hq0m r2 (by rw [HD0.out]; exact HRC.out)).mono ?_
      rintro e w4 ⟨q1, rfl, hq1, hb4⟩
      obtain ⟨ρ4, hx4, i4⟩ := I3.out.belowE hb4 6
      have I4 := Lib.hid i4
      clear i4 hx4 hb4 I3 d0 d7
      have HQ1 := Lib.hid hq1; clear hq1
      cases r2 with
      | error e =>
        have hne : (e != 0) = true := by simpa using nzCnt _ _ HRC.out
        have HE : Hid (r = .error e) := by have h := HR3.out; rw [bindR_err HRC.out] at h; exact h.symm
        simp only [rval_error, rerr_error]
        go_wp2_with (first | (refine wpList_loadB I4.out.t (by rfl) 38 _ (by rfl) (by rfl) _ Tryd.underlying38 rfl (by kernel_rfl) ?_) | (refine wpList_storeB I4.out.r (by rfl) 38 _ _ (by rfl) 0 ([.int .i64 0, .slice none 0 0, .bool false, .int .i64 0, .string ⟨#[]⟩, .slice none 0 0]) (by rfl) (by rfl) (by kernel_rfl) (by show 0 + 6 ≤ 6; decide) (by rfl) ?_; intro wz hxz hgz; have HXZ : Hid (Bx (Rl ρ4 2) wz w.heap.size ([.int .i64 0, .slice none 0 0, .bool false, .int .i64 0, .string ⟨#[]⟩, .slice none 0 0])) := Lib.hid hxz; have HGZ := Lib.hid hgz; clear hxz hgz))
        refine bodyPost_ret (results_boxT4 (vs := [.int .i64 0, .slice none 0 0, .bool false, .int .i64 0, .string ⟨#[]⟩, .slice none 0 0]) rfl HXZ.out (by rfl) (by rfl) (by rfl) (by rfl) _ Tryd.underlying38 rfl (by kernel_rfl)) rfl ?_
        exact I4.out.err HGZ.out HE.out (n := 0) (c := Pl3.none) (more := false) (v := Val.none) (by omega) (by omega)
      | ok p =>
        obtain ⟨n, b2⟩ := p
        have hn4 : n ≤ 4096 := by have := cnt_le (.ok b1); rw [gV_ok HRC.out] at this; exact this
        have hq1m : q1 ≤ m := by have := HQ1.out.le; have := hlb.out; omega
        have HD1 := Lib.hid HQ1.out.drop
        clear HQ1
        have HR4 : Hid ((bindR (optR keys [] (placesR n) b2) fun l b => bindR (optR (bitB x 1) Val.none getValue b) fun st b => bindR (colsT x n b) fun cs b => (.ok ((mkT n cs (bitB x 1) st, l), b) : Res (Tb × List Nat))) = r) := by have h := HR3.out; rw [bindR_ok HRC.out] at h; exact h
        clear HR3
        simp only [rval_ok, rerr_ok]
        have t0 := I4.out.t.c 0 _ rfl
        have kt0 := I4.out.t.fr 0
        have tl4 := I4.out.t.lt
        have I5 := Lib.hid (I4.out.put 0 (.int .i64 (n : Int)) (by decide))
        simp only [List.set_cons_zero, List.set_cons_succ] at I5
        go_upto_region 12 with fail
        clear t0 kt0 I4 tl4
        go_upto_if 54 with fail
        go_cut [11, 13, 14] (fun pl tp er wx => ∃ ρ a l q b3, pl = .slice a.1 a.2.1 a.2.2 ∧ tp = .int .i64 ((q : Nat) : Int) ∧ er = .int .i64 0 ∧ q ≤ m ∧ Hid (bs.drop q = b3) ∧ Hid (CR w w.heap.size (w.heap.size + 1) [.int .i64 (n : Int), .slice none 0 0, .bool false, .int .i64 0, .string ⟨#[]⟩, .slice none 0 0] a l Pl3.none [] ρ wx) ∧ Hid (optR keys [] (placesR n) b2 = .ok (l, b3)))
        case first =>
          cases keys with
          | false =>
            go_wp2_with fail
            go_meet
            exact ⟨ρ4, Pl3.none, [], q1, b2, rfl, rfl, rfl, hq1m, HD1, I5, rfl⟩
          | true =>
            obtain ⟨r3, hr3⟩ : ∃ z, getCnt b2 = z := ⟨_, rfl⟩
            have HRM := Lib.hid hr3; clear hr3
            go_wp2_with fail
            refine (rcnt10_any (HS.out.fin I5.out.bs.below) hq1m r3 (by rw [HD1.out]; exact HRM.out)).mono ?_
            rintro e w6 ⟨q2, rfl, hq2, hb6⟩
            obtain ⟨ρ6, hx6, i6⟩ := I5.out.belowE hb6 6
            have I6 := Lib.hid i6
            clear i6 hx6 hb6 I5
            have HQ2 := Lib.hid hq2; clear hq2
            cases r3 with
            | error e =>
              have hne : (e != 0) = true := by simpa using nzCnt _ _ HRM.out
              have HE : Hid (r = .error e) := by have h := HR4.out; rw [bindR_err (places_e1 HRM.out)] at h; exact h.symm
              simp only [rval_error, rerr_error]
              go_wp2_with (first | (refine wpList_loadB I6.out.t (by rfl) 38 _ (by rfl) (by rfl) _ Tryd.underlying38 rfl (by kernel_rfl) ?_) | (refine wpList_storeB I6.out.r (by rfl) 38 _ _ (by rfl) 0 ([.int .i64 (n : Int), .slice none 0 0, .bool false, .int .i64 0, .string ⟨#[]⟩, .slice none 0 0]) (by rfl) (by rfl) (by kernel_rfl) (by show 0 + 6 ≤ 6; decide) (by rfl) ?_; intro wz hxz hgz; have HXZ : Hid (Bx (Rl ρ6 2) wz w.heap.size ([.int .i64 (n : Int), .slice none 0 0, .bool false, .int .i64 0, .string ⟨#[]⟩, .slice none 0 0])) := Lib.hid hxz; have HGZ := Lib.hid hgz; clear hxz hgz))
              refine bodyPost_ret (results_boxT4 (vs := [.int .i64 (n : Int), .slice none 0 0, .bool false, .int .i64 0, .string ⟨#[]⟩, .slice none 0 0]) rfl HXZ.out (by rfl) (by rfl) (by rfl) (by rfl) _ Tryd.underlying38 rfl (by kernel_rfl)) rfl ?_
              exact I6.out.err HGZ.out HE.out (n := (n : Int)) (c := Pl3.none) (more := false) (v := Val.none) (by omega) (by omega)
            | ok p =>
              obtain ⟨mm, b3⟩ := p
              have hm4 : mm ≤ 4096 := by have := cnt_le (.ok b2); rw [gV_ok HRM.out] at this; exact this
              have hq2m : q2 ≤ m := by have := HQ2.out.le; have := hlb.out; omega
              have HD2 := Lib.hid HQ2.out.drop
              clear HQ2
              simp only [rval_ok, rerr_ok]
              go_wp2_with fail
              go_loopw [11, 13, 14, 17, 18] (fun pl tp er hg i wr => ∃ ρ k l a q bk hh, k ≤ mm ∧ pl = .slice a.1 a.2.1 a.2.2 ∧ tp = .int .i64 ((q : Nat) : Int) ∧ er = .int .i64 0 ∧ hg = .bool hh ∧ i = .int .i64 ((k : Nat) : Int) ∧ q ≤ m ∧ Hid (bs.drop q = bk) ∧ Hid (CR w w.heap.size (w.heap.size + 1) [.int .i64 (n : Int), .slice none 0 0, .bool false, .int .i64 0, .string ⟨#[]⟩, .slice none 0 0] a l Pl3.none [] ρ wr) ∧ Hid (l.length = k) ∧ Hid (hh = l.any fun z => decide (n ≤ z)) ∧ Hid (getsM (getN 2) k b3 = .ok (l, bk))) (fun _ _ _ _ i _ => mm - (intOf i).toNat)
              case atStart => exact ⟨ρ6, 0, [], Pl3.none, q2, b3, false, by omega, rfl, rfl, rfl, rfl, rfl, hq2m, HD2, I6, rfl, rfl, rfl⟩
              case round =>
                clear I6
                obtain ⟨ρ, k, l, a, q, bk, hh, hk, rfl, rfl, rfl, rfl, rfl, hqm, HDk, I7, HL, HH, HG⟩ := hrel
                by_cases hlt : k < mm
                · obtain ⟨r4, hr4⟩ : ∃ z, getN 2 bk = z := ⟨_, rfl⟩
                  have HRN := Lib.hid hr4; clear hr4
                  go_wp2_with fail
                  refine (rget_any (n := 2) (HS.out.fin I7.out.bs.below) hqm (by decide) (by decide) r4 (by rw [HDk.out]; exact HRN.out)).mono ?_
                  rintro e w8 ⟨q3, rfl, hq3, rfl⟩
                  have HQ3 := Lib.hid hq3; clear hq3
                  cases r4 with
                  | error e =>
                    have hne : (e != 0) = true := by rw [getN_err HRN.out]; rfl
                    have HE : Hid (r = .error e) := by have h := HR4.out; rw [bindR_err (places_e2 HRM.out (getsM_stop hlt HG.out HRN.out))] at h; exact h.symm
                    simp only [rval_error, rerr_error]
                    go_wp2_with (first | (refine wpList_loadB I7.out.t (by rfl) 38 _ (by rfl) (by rfl) _ Tryd.underlying38 rfl (by kernel_rfl) ?_) | (refine wpList_storeB I7.out.r (by rfl) 38 _ _ (by rfl) 0 ([.int .i64 (n : Int), .slice none 0 0, .bool false, .int .i64 0, .string ⟨#[]⟩, .slice none 0 0]) (by rfl) (by rfl) (by kernel_rfl) (by show 0 + 6 ≤ 6; decide) (by rfl) ?_; intro wz hxz hgz; have HXZ : Hid (Bx (Rl ρ 2) wz w.heap.size ([.int .i64 (n : Int), .slice none 0 0, .bool false, .int .i64 0, .string ⟨#[]⟩, .slice none 0 0])) := Lib.hid hxz; have HGZ := Lib.hid hgz; clear hxz hgz))
                    refine bodyPost_ret (results_boxT4 (vs := [.int .i64 (n : Int), .slice none 0 0, .bool false, .int .i64 0, .string ⟨#[]⟩, .slice none 0 0]) rfl HXZ.out (by rfl) (by rfl) (by rfl) (by rfl) _ Tryd.underlying38 rfl (by kernel_rfl)) rfl ?_
                    exact I7.out.err HGZ.out HE.out (n := (n : Int)) (c := Pl3.none) (more := false) (v := Val.none) (by omega) (by omega)
                  | ok p =>
                    obtain ⟨xx, b4⟩ := p
                    have hx16 : xx < 65536 := by have := (getN_ok HRN.out).2.2.2; simpa using this
                    have hq3m : q3 ≤ m := by have := HQ3.out.le; have := hlb.out; omega
                    have HD3 := Lib.hid HQ3.out.drop
                    clear HQ3
                    simp only [rval_ok, rerr_ok]
                    have h6 : (xx : Int) % 65536 = (xx : Int) := Int.emod_eq_of_lt (by omega) (by omega)
                    have hw : IntKind.u16.wrap (xx : Int) = (xx : Int) := by first | exact h6 | (simp [IntKind.wrap]; exact h6)
                    clear h6
                    have hw2 : IntKind.i64.wrap (xx : Int) = (xx : Int) := wrap_small _ (by omega) (by omega)
                    have hal : a.2.1 ≤ 4096 := by have := I7.out.pl.len (by decide); have := HL.out; omega
                    go_upto_region 26 with (first | (at_builtin; go_loud (refine wpList_appX rfl tyU16 _ _ rfl (ρ := ρ) (r := 4) _ _ _ l rfl (I7.out.pl.after ((Below.refl _ _).alloc (Nat.le_refl _) _)) _ _ _ _ [xx] rfl (arr_lit (P := u16P) _ #[.int .u16 (xx : Int)] xx rfl ⟨rfl, hx16⟩ (by simp)) u16P_one (fun _ _ _ h => h) (by omega) (by unfold maxLen; omega) ?_); intro A8 m8 d8 w8 ρ8 hx8 hown8 hf8))
                    have I8 := Lib.hid ((I7.out.after ((Below.refl _ _).alloc (Nat.le_refl _) _)).app4 (a' := (A8, m8, d8)) hf8 hx8 hown8)
                    clear hx8 hown8 hf8 I7
                    cases hh with
                    | true =>
                      go_wp2_with fail
                      exact ⟨⟨ρ8, k + 1, l ++ [xx], (A8, m8, d8), q3, b4, true, by omega, rfl, rfl, rfl, rfl, by go_num, hq3m, HD3, I8, by rw [List.length_append, HL.out]; rfl, by rw [List.any_append, ← HH.out]; rfl, getsM_snoc HG.out HRN.out⟩, by simp [intOf]; omega⟩
                    | false =>
                      go_wp2_with fail
                      exact ⟨⟨ρ8, k + 1, l ++ [xx], (A8, m8, d8), q3, b4, decide (n ≤ xx), by omega, rfl, rfl, rfl, rfl, by go_num, hq3m, HD3, I8, by rw [List.length_append, HL.out]; rfl, by rw [List.any_append, ← HH.out]; show _ = (false || (decide (n ≤ xx) || false)); simp, getsM_snoc HG.out HRN.out⟩, by simp [intOf]; omega⟩
                · obtain rfl : mm = k := by omega
                  cases hh with
                  | true =>
                    have HE : Hid (r = .error 11) := by have h := HR4.out; rw [bindR_err (show optR true [] (placesR n) b2 = .error 11 from by rw [places_o HRM.out HG.out, ← HH.out]; rfl)] at h; exact h.symm
                    go_wp2_with (first | (refine wpList_loadB I7.out.t (by rfl) 38 _ (by rfl) (by rfl) _ Tryd.underlying38 rfl (by kernel_rfl) ?_) | (refine wpList_storeB I7.out.r (by rfl) 38 _ _ (by rfl) 0 ([.int .i64 (n : Int), .slice none 0 0, .bool false, .int .i64 0, .string ⟨#[]⟩, .slice none 0 0]) (by rfl) (by rfl) (by kernel_rfl) (by show 0 + 6 ≤ 6; decide) (by rfl) ?_; intro wz hxz hgz; have HXZ : Hid (Bx (Rl ρ 2) wz w.heap.size ([.int .i64 (n : Int), .slice none 0 0, .bool false, .int .i64 0, .string ⟨#[]⟩, .slice none 0 0])) := Lib.hid hxz; have HGZ := Lib.hid hgz; clear hxz hgz))
                    refine bodyPost_ret (results_boxT4 (vs := [.int .i64 (n : Int), .slice none 0 0, .bool false, .int .i64 0, .string ⟨#[]⟩, .slice none 0 0]) rfl HXZ.out (by rfl) (by rfl) (by rfl) (by rfl) _ Tryd.underlying38 rfl (by kernel_rfl)) rfl ?_
                    exact I7.out.err HGZ.out HE.out (n := (n : Int)) (c := Pl3.none) (more := false) (v := Val.none) (by omega) (by omega)
                  | false =>
                    go_wp2_with fail
                    go_meet
                    exact ⟨ρ, a, l, q, bk, rfl, rfl, rfl, hqm, HDk, I7, by rw [places_o HRM.out HG.out, ← HH.out]; rfl⟩
        case rest =>
          obtain ⟨ρ5, a, l, q, b3, rfl, rfl, rfl, hqm, HD, I6, HPL⟩ := hcut
          obtain ⟨w5, hwo⟩ : ∃ wo, wo = wc := ⟨_, rfl⟩
          subst hwo
          clear I5 HD1
          have HR5 : Hid ((bindR (optR (bitB x 1) Val.none getValue b3) fun st b => bindR (colsT x n b) fun cs b => (.ok ((mkT n cs (bitB x 1) st, l), b) : Res (Tb × List Nat))) = r) := by have h := HR4.out; rw [bindR_ok HPL.out] at h; exact h
          clear HR4 HPL
          obtain ⟨mo, hmo⟩ : ∃ z, z = bitB x 1 := ⟨_, rfl⟩
          have hm1 : ((x : Int) / 2 % 2 == 1) = mo := by rw [hmo]; unfold bitB; rw [Bool.eq_iff_iff, beq_iff_eq, beq_iff_eq]; omega
          have HR6 : Hid ((bindR (optR mo Val.none getValue b3) fun st b => bindR (colsT x n b) fun cs b => (.ok ((mkT n cs mo st, l), b) : Res (Tb × List Nat))) = r) := by rw [hmo]; exact HR5
          clear HR5 hmo
          go_upto_if 99 with fail
          clear hm1
          go_cut [13, 14] (fun tp er wx => ∃ ρ q v b4, tp = .int .i64 ((q : Nat) : Int) ∧ er = .int .i64 0 ∧ q ≤ m ∧ Hid (bs.drop q = b4) ∧ Hid (CR w w.heap.size (w.heap.size + 1) [.int .i64 (n : Int), .slice none 0 0, .bool mo, .int .i64 v.kind, .string (str v.bytes), .slice none 0 0] a l Pl3.none [] ρ wx) ∧ Hid (optR mo Val.none getValue b3 = .ok (v, b4)))
          case first =>
            cases mo with
            | false =>
              go_wp2_with fail
              go_meet
              exact ⟨ρ5, q, Val.none, b3, rfl, rfl, hqm, HD, I6, rfl⟩
            | true =>
              have t2 := I6.out.t.c 2 _ rfl
              have kt2 := I6.out.t.fr 2
              have tl6 := I6.out.t.lt
              have I7 := Lib.hid (I6.out.put 2 (.bool true) (by simp))
              simp only [List.set_cons_zero, List.set_cons_succ] at I7
              obtain ⟨r5, hr5⟩ : ∃ z, getValue b3 = z := ⟨_, rfl⟩
              have HRV := Lib.hid hr5; clear hr5
              go_wp2_with fail
              refine (rgetValue_any (HS.out.fin I7.out.bs.below) hm hqm r5 (by rw [HD.out]; exact HRV.out)).mono ?_
              rintro e w8 ⟨q2, rfl, hq2, hb8⟩
              obtain ⟨ρ8, hx8, i8⟩ := I7.out.belowE hb8 6
              have I8 := Lib.hid i8
              clear i8 hx8 hb8 I7 I6 t2 kt2 tl6
              have HQ2 := Lib.hid hq2; clear hq2
              obtain ⟨v, hv⟩ : ∃ v, v = rval Val.none r5 := ⟨_, rfl⟩
              rw [← hv]
              have HV := Lib.hid hv; clear hv
              have t3 := I8.out.t.c 3 _ rfl
              have t4 := I8.out.t.c 4 _ rfl
              have kt3 := I8.out.t.fr 3
              have kt4 := I8.out.t.fr 4
              have tl8 := I8.out.t.lt
              have I9 := Lib.hid ((I8.out.put 3 (.int .i64 v.kind) (by simp)).put 4 (.string (str v.bytes)) (by simp))
              simp only [List.set_cons_zero, List.set_cons_succ] at I9
              go_upto_region 32 with fail
              clear t3 t4 kt3 kt4 tl8 I8
              cases r5 with
              | error e =>
                have hne : (e != 0) = true := by simpa using nzValue _ _ HRV.out
                have HE : Hid (r = .error e) := by have h := HR6.out; rw [bindR_err (show optR true Val.none getValue b3 = .error e from HRV.out)] at h; exact h.symm
                simp only [rerr_error]
                go_wp2_with (first | (refine wpList_loadB I9.out.t (by rfl) 38 _ (by rfl) (by rfl) _ Tryd.underlying38 rfl (by kernel_rfl) ?_) | (refine wpList_storeB I9.out.r (by rfl) 38 _ _ (by rfl) 0 ([.int .i64 (n : Int), .slice none 0 0, .bool true, .int .i64 v.kind, .string (str v.bytes), .slice none 0 0]) (by rfl) (by rfl) (by kernel_rfl) (by show 0 + 6 ≤ 6; decide) (by rfl) ?_; intro wz hxz hgz; have HXZ : Hid (Bx (Rl ρ8 2) wz w.heap.size ([.int .i64 (n : Int), .slice none 0 0, .bool true, .int .i64 v.kind, .string (str v.bytes), .slice none 0 0])) := Lib.hid hxz; have HGZ := Lib.hid hgz; clear hxz hgz))
                refine bodyPost_ret (results_boxT4 (vs := [.int .i64 (n : Int), .slice none 0 0, .bool true, .int .i64 v.kind, .string (str v.bytes), .slice none 0 0]) rfl HXZ.out (by rfl) (by rfl) (by rfl) (by rfl) _ Tryd.underlying38 rfl (by kernel_rfl)) rfl ?_
                exact I9.out.err HGZ.out HE.out (n := (n : Int)) (c := Pl3.none) (more := true) (v := v) (by omega) (by omega)
              | ok p =>
                obtain ⟨v2, b4⟩ := p
                have hq2m : q2 ≤ m := by have := HQ2.out.le; have := hlb.out; omega
                have HD2 := Lib.hid HQ2.out.drop
                clear HQ2
                simp only [rerr_ok]
                go_wp2_with fail
                go_meet
                exact ⟨ρ8, q2, v, b4, rfl, rfl, hq2m, HD2, I9, by rw [HV.out]; exact HRV.out⟩
          case rest =>
            obtain ⟨ρ7, q7, v, b5, rfl, rfl, hqm7, HD7, I7, HPV⟩ := hcut
            obtain ⟨w7, hwo⟩ : ∃ wo, wo = wc := ⟨_, rfl⟩
            subst hwo
            clear I6 HD hqm
            have HR7 : Hid ((bindR (colsT x n b5) fun cs b => (.ok ((mkT n cs mo v, l), b) : Res (Tb × List Nat))) = r) := by have h := HR6.out; rw [bindR_ok HPV.out] at h; exact h
            clear HR6 HPV
            by_cases hx4 : 4 ≤ x
            · have HE : Hid (r = .ok ((mkT n [] mo v, l), b5)) := by
                have h := HR7.out
                have h2 : colsT x n b5 = .ok ([], b5) := by unfold colsT; rw [if_pos (show bitB x 2 = true from by unfold bitB; rw [beq_iff_eq]; omega)]
                rw [bindR_ok h2] at h
                exact h.symm
              go_wp2_with (first | (refine wpList_loadB I7.out.t (by rfl) 38 _ (by rfl) (by rfl) _ Tryd.underlying38 rfl (by kernel_rfl) ?_) | (refine wpList_storeB I7.out.r (by rfl) 38 _ _ (by rfl) 0 ([.int .i64 (n : Int), .slice none 0 0, .bool mo, .int .i64 v.kind, .string (str v.bytes), .slice none 0 0]) (by rfl) (by rfl) (by kernel_rfl) (by show 0 + 6 ≤ 6; decide) (by rfl) ?_; intro wz hxz hgz; have HXZ : Hid (Bx (Rl ρ7 2) wz w.heap.size ([.int .i64 (n : Int), .slice none 0 0, .bool mo, .int .i64 v.kind, .string (str v.bytes), .slice none 0 0])) := Lib.hid hxz; have HGZ := Lib.hid hgz; clear hxz hgz))
              refine bodyPost_ret (results_boxT4 (vs := [.int .i64 (n : Int), .slice none 0 0, .bool mo, .int .i64 v.kind, .string (str v.bytes), .slice none 0 0]) rfl HXZ.out (by rfl) (by rfl) (by rfl) (by rfl) _ Tryd.underlying38 rfl (by kernel_rfl)) rfl ?_
              exact I7.out.done HGZ.out HE.out (by have := hlb.out; omega) HD7.out hn4
            · obtain ⟨b0, hb0⟩ : ∃ z, z = bitB x 0 := ⟨_, rfl⟩
              have hm0 : ((x : Int) % 2 == 1) = b0 := by rw [hb0]; unfold bitB; rw [Bool.eq_iff_iff, beq_iff_eq, beq_iff_eq]; omega
              have HM2 : Hid (((x : Int) % 2 == 0) = !b0) := by rw [← hm0]; rcases (by omega : (x : Int) % 2 = 0 ∨ (x : Int) % 2 = 1) with h | h <;> rw [h] <;> rfl
              have HR8 : Hid ((bindR (bindR (optR b0 ([], []) nmsR b5) fun p b => getsM (colR b0 p) n b) fun cs b => (.ok ((mkT n cs mo v, l), b) : Res (Tb × List Nat))) = r) := by
                have h := HR7.out
                have h2 : colsT x n b5 = bindR (optR b0 ([], []) nmsR b5) fun p b => getsM (colR b0 p) n b := by unfold colsT; rw [if_neg (show ¬ bitB x 2 = true from by unfold bitB; rw [beq_iff_eq]; omega), hb0]
                rw [h2] at h
                exact h
              clear HR7 hb0
              obtain ⟨ρ8, hx8, i8⟩ := I7.out.belowE (w' := w7.alloc (.cells #[.string ⟨#[]⟩, .string ⟨#[]⟩, .string ⟨#[]⟩, .int .u16 0, .string ⟨#[]⟩, .string ⟨#[]⟩, .slice none 0 0, .slice none 0 0] 87)) ((Below.refl _ _).alloc (Nat.le_refl _) _) 7
              have HALL8 : Hid (Bx (Rl ρ8 7) (w7.alloc (.cells #[.string ⟨#[]⟩, .string ⟨#[]⟩, .string ⟨#[]⟩, .int .u16 0, .string ⟨#[]⟩, .string ⟨#[]⟩, .slice none 0 0, .slice none 0 0] 87)) w7.heap.size (nmC [] [])) := (Bx.alloc w7 #[.string ⟨#[]⟩, .string ⟨#[]⟩, .string ⟨#[]⟩, .int .u16 0, .string ⟨#[]⟩, .string ⟨#[]⟩, .slice none 0 0, .slice none 0 0] 87 (S := fun b => b = w7.heap.size) rfl rfl).mono fun b hb _ => by rw [hx8]; exact xt_ge (Nat.le_of_eq hb.symm)
              have I8 := Lib.hid i8
              clear i8 hx8
              go_upto_if 120 with fail
              clear hm0
              go_cut [13, 14] (fun tp er wx => ∃ ρ q s t b6, tp = .int .i64 ((q : Nat) : Int) ∧ er = .int .i64 0 ∧ q ≤ m ∧ Hid (bs.drop q = b6) ∧ Hid (CR w w.heap.size (w.heap.size + 1) [.int .i64 (n : Int), .slice none 0 0, .bool mo, .int .i64 v.kind, .string (str v.bytes), .slice none 0 0] a l Pl3.none [] ρ wx) ∧ Hid (Bx (Rl ρ 7) wx w7.heap.size (nmC s t)) ∧ Hid (optR b0 ([], []) nmsR b5 = .ok ((s, t), b6)))
              case first =>
                cases b0 with
                | false =>
                  go_wp2_with fail
                  go_meet
                  exact ⟨ρ8, q7, [], [], b5, rfl, rfl, hqm7, HD7, I8, HALL8, rfl⟩
                | true =>
                  obtain ⟨r6, hr6⟩ : ∃ z, nmsR b5 = z := ⟨_, rfl⟩
                  have HRS := Lib.hid hr6; clear hr6
                  go_wp2_with fail
                  refine (rnms10_any (HS.out.fin I8.out.bs.below) hm hqm7 r6 (by rw [HD7.out]; exact HRS.out)).mono ?_
                  rintro e w9 ⟨s, t, q2, rfl, hnm, hq2, hb9⟩
                  obtain ⟨ρ9, hx9, i9⟩ := I8.out.belowE hb9 6
                  have I9 := Lib.hid i9
                  have HALL9 := Lib.hid (HALL8.out.stepx (Fr.of_below hb9 : Fr (Rl ρ8 10) _ w9) hx9)
                  clear i9 hx9 hb9 I8 HALL8
                  have HNM := Lib.hid hnm; clear hnm
                  have HQ2 := Lib.hid hq2; clear hq2
                  go_upto_region 39 with (first | (refine wpList_storeB HALL9.out (by rfl) 87 _ _ (by rfl) 0 (nmC s t) (by rfl) (by rfl) (by kernel_rfl) (by show 0 + 8 ≤ 8; decide) (by rfl) ?_; intro w10 hx10 hg10))
                  have I10 := Lib.hid (I9.out.stay (.inl rfl) (Fr.of_grown hg10 fun b e => by injection e with e; subst e; exact HALL9.out.role))
                  have HALL10 : Hid (Bx (Rl ρ9 7) w10 w7.heap.size (nmC s t)) := Lib.hid hx10
                  clear hx10 hg10 I9 HALL9
                  cases r6 with
                  | error e =>
                    have hne : (e != 0) = true := by simpa using nzNms _ _ HRS.out
                    have HE : Hid (r = .error e) := by have h := HR8.out; rw [bindR_err (bindR_err (show optR true ([], []) nmsR b5 = .error e from HRS.out))] at h; exact h.symm
                    simp only [rerr_error]
                    go_wp2_with (first | (refine wpList_loadB I10.out.t (by rfl) 38 _ (by rfl) (by rfl) _ Tryd.underlying38 rfl (by kernel_rfl) ?_) | (refine wpList_storeB I10.out.r (by rfl) 38 _ _ (by rfl) 0 ([.int .i64 (n : Int), .slice none 0 0, .bool mo, .int .i64 v.kind, .string (str v.bytes), .slice none 0 0]) (by rfl) (by rfl) (by kernel_rfl) (by show 0 + 6 ≤ 6; decide) (by rfl) ?_; intro wz hxz hgz; have HXZ : Hid (Bx (Rl ρ9 2) wz w.heap.size ([.int .i64 (n : Int), .slice none 0 0, .bool mo, .int .i64 v.kind, .string (str v.bytes), .slice none 0 0])) := Lib.hid hxz; have HGZ := Lib.hid hgz; clear hxz hgz))
                    refine bodyPost_ret (results_boxT4 (vs := [.int .i64 (n : Int), .slice none 0 0, .bool mo, .int .i64 v.kind, .string (str v.bytes), .slice none 0 0]) rfl HXZ.out (by rfl) (by rfl) (by rfl) (by rfl) _ Tryd.underlying38 rfl (by kernel_rfl)) rfl ?_
                    exact I10.out.err HGZ.out HE.out (n := (n : Int)) (c := Pl3.none) (more := mo) (v := v) (by omega) (by omega)
                  | ok p =>
                    obtain ⟨p2, b6⟩ := p
                    have hq2m : q2 ≤ m := by have := HQ2.out.le; have := hlb.out; omega
                    have HD2 := Lib.hid HQ2.out.drop
                    clear HQ2
                    simp only [rerr_ok]
                    go_wp2_with fail
                    go_meet
                    exact ⟨ρ9, q2, s, t, b6, rfl, rfl, hq2m, HD2, I10, HALL10, by rw [← HNM.out p2 b6 rfl]; exact HRS.out⟩
              case rest =>
                obtain ⟨ρ9, q9, s9, t9, b6, rfl, rfl, hqm9, HD9, I9, HALL9, HPN⟩ := hcut
                obtain ⟨w9, hwo⟩ : ∃ wo, wo = wc := ⟨_, rfl⟩
                subst hwo
                clear I7 I8 HALL8 HD7 hqm7
                have HR9 : Hid ((bindR (getsM (colR b0 (s9, t9)) n b6) fun cs b => (.ok ((mkT n cs mo v, l), b) : Res (Tb × List Nat))) = r) := by have h := HR8.out; rw [bindR_ok HPN.out] at h; exact h
                have HL9 := Lib.hid (nms_leO ⟨by decide, by decide⟩ HPN.out)
                clear HR8 HPN
                have hb7 : w7.heap.size < w9.heap.size := HALL9.out.lt
                go_wp2_with fail
                go_loopw [13, 14, 21] (fun tp er i wr => ∃ ρ k cs c q bk, k ≤ n ∧ tp = .int .i64 ((q : Nat) : Int) ∧ er = .int .i64 0 ∧ i = .int .i64 ((k : Nat) : Int) ∧ q ≤ m ∧ Hid (bs.drop q = bk) ∧ Hid (CR w w.heap.size (w.heap.size + 1) [.int .i64 (n : Int), .slice c.1 c.2.1 c.2.2, .bool mo, .int .i64 v.kind, .string (str v.bytes), .slice none 0 0] a l c cs ρ wr) ∧ Hid (Bx (Rl ρ 7) wr w7.heap.size (nmC s9 t9)) ∧ Hid (cs.length = k) ∧ Hid (getsM (colR b0 (s9, t9)) k b6 = .ok (cs, bk))) (fun _ _ i _ => n - (intOf i).toNat)
                case atStart => exact ⟨ρ9, 0, [], Pl3.none, q9, b6, by omega, rfl, rfl, rfl, hqm9, HD9, I9, HALL9, rfl, rfl⟩
                case round =>
                  clear I9 HALL9 hb7 HD9 hqm9
                  obtain ⟨ρ, k, cs, c, q, bk, hk, rfl, rfl, rfl, hqm, HDk, I9, HALL9, HL, HG⟩ := hrel
                  by_cases hlt : k < n
                  · have hm2 := HM2.out
                    go_upto_if 140 with (first | (refine wpList_loadB HALL9.out (by rfl) 87 _ (by rfl) (by rfl) _ Tryd.underlying87 rfl (by kernel_rfl) ?_) | (refine wpList_store_newB (by rfl) 87 _ _ (by rfl) _ _ _ _ (by rfl) (by rfl) (by simp) (by rfl) (by kernel_rfl) (by rfl) (by rfl) ?_; intro w10 hb10 hz10 hx10))
                    clear hm2
                    obtain ⟨ρ10, hr10, i10⟩ := I9.out.belowE hb10 8
                    have I10 := Lib.hid i10
                    have HALL10 := Lib.hid (HALL9.out.stepx (Fr.of_below hb10 : Fr (Rl ρ 10) wr w10) hr10)
                    have HC10 : Hid (Bx (Rl ρ10 8) w10 wr.heap.size (nmC s9 t9)) := hx10.mono fun b hb _ => by rw [hr10]; exact xt_ge (Nat.le_of_eq hb.symm)
                    clear i10 hb10 hz10 hx10 hr10 I9 HALL9
                    go_cut [13, 14] (fun tp er wx => ∃ ρ q s t bk2, tp = .int .i64 ((q : Nat) : Int) ∧ er = .int .i64 0 ∧ q ≤ m ∧ Hid (bs.drop q = bk2) ∧ Hid (CR w w.heap.size (w.heap.size + 1) [.int .i64 (n : Int), .slice c.1 c.2.1 c.2.2, .bool mo, .int .i64 v.kind, .string (str v.bytes), .slice none 0 0] a l c cs ρ wx) ∧ Hid (Bx (Rl ρ 7) wx w7.heap.size (nmC s9 t9)) ∧ Hid (Bx (Rl ρ 8) wx wr.heap.size (nmC s t)) ∧ Hid (optR (!b0) (s9, t9) nmsR bk = .ok ((s, t), bk2)))
                    case first =>
                      cases b0 with
                      | true =>
                        go_wp2_with fail
                        go_meet
                        exact ⟨ρ10, q, s9, t9, bk, rfl, rfl, hqm, HDk, I10, HALL10, HC10, rfl⟩
                      | false =>
                        obtain ⟨r6, hr6⟩ : ∃ z, nmsR bk = z := ⟨_, rfl⟩
                        have HRS := Lib.hid hr6; clear hr6
                        go_wp2_with fail
                        refine (rnms10_any (HS.out.fin I10.out.bs.below) hm hqm r6 (by rw [HDk.out]; exact HRS.out)).mono ?_
                        rintro e w11 ⟨s, t, q2, rfl, hnm, hq2, hb11⟩
                        obtain ⟨ρ11, hr11, i11⟩ := I10.out.belowE hb11 6
                        have I11 := Lib.hid i11
                        have HALL11 := Lib.hid (HALL10.out.stepx (Fr.of_below hb11 : Fr (Rl ρ10 10) _ w11) hr11)
                        have HC11 := Lib.hid (HC10.out.stepx (Fr.of_below hb11 : Fr (Rl ρ10 10) _ w11) hr11)
                        clear i11 hr11 hb11 I10 HALL10 HC10
                        have HNM := Lib.hid hnm; clear hnm
                        have HQ2 := Lib.hid hq2; clear hq2
                        go_upto_region 47 with (first | (refine wpList_storeB HC11.out (by rfl) 87 _ _ (by rfl) 0 (nmC s t) (by rfl) (by rfl) (by kernel_rfl) (by show 0 + 8 ≤ 8; decide) (by rfl) ?_; intro w12 hx12 hg12))
                        have hf12 : Fr (Rl ρ11 8) w11 w12 := Fr.of_grown hg12 fun b e => by injection e with e; subst e; exact HC11.out.role
                        have I12 := Lib.hid (I11.out.stay (.inr rfl) hf12)
                        have HALL12 := Lib.hid (HALL11.out.stay hf12)
                        have HC12 : Hid (Bx (Rl ρ11 8) w12 wr.heap.size (nmC s t)) := Lib.hid hx12
                        clear hx12 hg12 hf12 I11 HALL11 HC11
                        cases r6 with
                        | error e =>
                          have hne : (e != 0) = true := by simpa using nzNms _ _ HRS.out
                          have HE : Hid (r = .error e) := by have h := HR9.out; rw [bindR_err (getsM_stop hlt HG.out (show colR false (s9, t9) bk = .error e from by unfold colR; exact bindR_err (show optR (!false) (s9, t9) nmsR bk = .error e from HRS.out)))] at h; exact h.symm
                          simp only [rerr_error]
                          go_wp2_with (first | (refine wpList_loadB I12.out.t (by rfl) 38 _ (by rfl) (by rfl) _ Tryd.underlying38 rfl (by kernel_rfl) ?_) | (refine wpList_storeB I12.out.r (by rfl) 38 _ _ (by rfl) 0 ([.int .i64 (n : Int), .slice c.1 c.2.1 c.2.2, .bool mo, .int .i64 v.kind, .string (str v.bytes), .slice none 0 0]) (by rfl) (by rfl) (by kernel_rfl) (by show 0 + 6 ≤ 6; decide) (by rfl) ?_; intro wz hxz hgz; have HXZ : Hid (Bx (Rl ρ11 2) wz w.heap.size ([.int .i64 (n : Int), .slice c.1 c.2.1 c.2.2, .bool mo, .int .i64 v.kind, .string (str v.bytes), .slice none 0 0])) := Lib.hid hxz; have HGZ := Lib.hid hgz; clear hxz hgz))
                          refine bodyPost_ret (results_boxT4 (vs := [.int .i64 (n : Int), .slice c.1 c.2.1 c.2.2, .bool mo, .int .i64 v.kind, .string (str v.bytes), .slice none 0 0]) rfl HXZ.out (by rfl) (by rfl) (by rfl) (by rfl) _ Tryd.underlying38 rfl (by kernel_rfl)) rfl ?_
                          exact I12.out.err HGZ.out HE.out (n := (n : Int)) (c := c) (more := mo) (v := v) (by omega) (by omega)
                        | ok p =>
                          obtain ⟨p2, bk2⟩ := p
                          have hq2m : q2 ≤ m := by have := HQ2.out.le; have := hlb.out; omega
                          have HD2 := Lib.hid HQ2.out.drop
                          clear HQ2
                          simp only [rerr_ok]
                          go_wp2_with fail
                          go_meet
                          exact ⟨ρ11, q2, s, t, bk2, rfl, rfl, hq2m, HD2, I12, HALL12, HC12, by rw [← HNM.out p2 bk2 rfl]; exact HRS.out⟩
                    case rest =>
                      obtain ⟨ρ13, q13, s, t, bk2, rfl, rfl, hqm13, HD13, I13, HALL13, HC13, HPQ⟩ := hcut
                      obtain ⟨w13, hwo⟩ : ∃ wo, wo = wc := ⟨_, rfl⟩
                      subst hwo
                      clear I10 HALL10 HC10
                      obtain ⟨r7, hr7⟩ : ∃ z, getText bk2 = z := ⟨_, rfl⟩
                      have HRT := Lib.hid hr7; clear hr7
                      go_wp2_with fail
                      refine (rgetText_any (HS.out.fin I13.out.bs.below) hm hqm13 r7 (by rw [HD13.out]; exact HRT.out)).mono ?_
                      rintro e w14 ⟨q3, rfl, hq3, rfl⟩
                      have HQ3 := Lib.hid hq3; clear hq3
                      obtain ⟨nm, hnm⟩ : ∃ z, z = rval [] r7 := ⟨_, rfl⟩
                      rw [← hnm]
                      have HNM := Lib.hid hnm; clear hnm
                      have k2 := HC13.out.c 2 _ rfl
                      have f2 := HC13.out.fr 2
                      have cl13 := HC13.out.lt
                      have hf14 := HC13.out.frPut 2 (.string (str nm))
                      have I14 := Lib.hid (I13.out.stay (.inr rfl) hf14)
                      have HALL14 := Lib.hid (HALL13.out.stay hf14)
                      have HC14 : Hid (Bx (Rl ρ13 8) _ wr.heap.size [.string (str s), .string (str t), .string (str nm), .int .u16 0, .string ⟨#[]⟩, .string ⟨#[]⟩, .slice none 0 0, .slice none 0 0]) := Lib.hid (HC13.out.put 2 (.string (str nm)) (by show 2 < 8; decide))
                      clear hf14
                      go_upto_region 50 with fail
                      clear k2 f2 cl13 I13 HALL13 HC13
                      cases r7 with
                      | error e =>
                        have hne : (e != 0) = true := by simpa using nzText _ _ HRT.out
                        have HE : Hid (r = .error e) := by have h := HR9.out; rw [bindR_err (getsM_stop hlt HG.out (show colR b0 (s9, t9) bk = .error e from by unfold colR; rw [bindR_ok HPQ.out]; exact bindR_err HRT.out))] at h; exact h.symm
                        simp only [rerr_error]
                        go_wp2_with (first | (refine wpList_loadB I14.out.t (by rfl) 38 _ (by rfl) (by rfl) _ Tryd.underlying38 rfl (by kernel_rfl) ?_) | (refine wpList_storeB I14.out.r (by rfl) 38 _ _ (by rfl) 0 ([.int .i64 (n : Int), .slice c.1 c.2.1 c.2.2, .bool mo, .int .i64 v.kind, .string (str v.bytes), .slice none 0 0]) (by rfl) (by rfl) (by kernel_rfl) (by show 0 + 6 ≤ 6; decide) (by rfl) ?_; intro wz hxz hgz; have HXZ : Hid (Bx (Rl ρ13 2) wz w.heap.size ([.int .i64 (n : Int), .slice c.1 c.2.1 c.2.2, .bool mo, .int .i64 v.kind, .string (str v.bytes), .slice none 0 0])) := Lib.hid hxz; have HGZ := Lib.hid hgz; clear hxz hgz))
                        refine bodyPost_ret (results_boxT4 (vs := [.int .i64 (n : Int), .slice c.1 c.2.1 c.2.2, .bool mo, .int .i64 v.kind, .string (str v.bytes), .slice none 0 0]) rfl HXZ.out (by rfl) (by rfl) (by rfl) (by rfl) _ Tryd.underlying38 rfl (by kernel_rfl)) rfl ?_
                        exact I14.out.err HGZ.out HE.out (n := (n : Int)) (c := c) (more := mo) (v := v) (by omega) (by omega)
                      | ok p =>
                        obtain ⟨nm2, bk3⟩ := p
                        have hq3m : q3 ≤ m := by have := HQ3.out.le; have := hlb.out; omega
                        have HD3 := Lib.hid HQ3.out.drop
                        clear HQ3
                        simp only [rerr_ok]
                        obtain ⟨r8, hr8⟩ : ∃ z, getO 20 bk3 = z := ⟨_, rfl⟩
                        have HRO := Lib.hid hr8; clear hr8
                        go_wp2_with fail
                        refine (rget4_any 20 (deep := 1) (HS.out.fin I14.out.bs.below) hm hq3m (by decide) (by decide) r8 (by rw [HD3.out]; exact HRO.out)).mono ?_
                        rintro e w15 ⟨A1, n1, c1, A2, n2, c2, q4, rfl, ho15, hq4, hb15⟩
                        obtain ⟨ρ15, hr15, i15⟩ := I14.out.belowE hb15 6
                        have I15 := Lib.hid i15
                        have HALL15 := Lib.hid (HALL14.out.stepx (Fr.of_below hb15 : Fr (Rl ρ13 10) _ w15) hr15)
                        have HC15 := Lib.hid (HC14.out.stepx (Fr.of_below hb15 : Fr (Rl ρ13 10) _ w15) hr15)
                        obtain ⟨o, ho⟩ : ∃ z, z = rval Opt.none r8 := ⟨_, rfl⟩
                        rw [← ho] at ho15 ⊢
                        have HO := Lib.hid ho; clear ho
                        have HO15 : Hid (OptR (Rl ρ15 6) w15 9223372036854775807 20 A1 n1 c1 A2 n2 c2 o) := Lib.hid (ho15.mono fun b hb _ => by rw [hr15]; exact xt_ge hb)
                        have HQ4 := Lib.hid hq4; clear hq4
                        clear i15 hr15 hb15 ho15 I14 HALL14 HC14
                        go_upto_region 53 with (first | (refine wpList_storeB HC15.out (by rfl) 62 _ _ (by rfl) 3 [.int .u16 (o.id : Int), .string (str o.space), .string (str o.name), .slice A1 n1 c1, .slice A2 n2 c2] (by rfl) (by rfl) (by kernel_rfl) (by show 3 + 5 ≤ 8; decide) (by rfl) ?_; intro w16 hx16 hg16))
                        have hf16 : Fr (Rl ρ15 8) w15 w16 := Fr.of_grown hg16 fun b e => by injection e with e; subst e; exact HC15.out.role
                        have I16 := Lib.hid (I15.out.stay (.inr rfl) hf16)
                        have HALL16 := Lib.hid (HALL15.out.stay hf16)
                        have HC16 : Hid (Bx (Rl ρ15 8) w16 wr.heap.size [.string (str s), .string (str t), .string (str nm), .int .u16 (o.id : Int), .string (str o.space), .string (str o.name), .slice A1 n1 c1, .slice A2 n2 c2]) := Lib.hid hx16
                        have HO16 := Lib.hid (HO15.out.keep hf16.size fun b hb hlt => hf16.block b hlt (by have hb : ρ15 b = 6 := hb; show ¬ ρ15 b = 8; omega))
                        clear hx16 hg16 hf16 I15 HALL15 HC15 HO15
                        cases r8 with
                        | error e =>
                          have hne : (e != 0) = true := by simpa using nzO 20 _ _ HRO.out
                          have HE : Hid (r = .error e) := by have h := HR9.out; rw [bindR_err (getsM_stop hlt HG.out (show colR b0 (s9, t9) bk = .error e from by unfold colR; rw [bindR_ok HPQ.out, bindR_ok HRT.out]; exact bindR_err HRO.out))] at h; exact h.symm
                          simp only [rerr_error]
                          go_wp2_with (first | (refine wpList_loadB I16.out.t (by rfl) 38 _ (by rfl) (by rfl) _ Tryd.underlying38 rfl (by kernel_rfl) ?_) | (refine wpList_storeB I16.out.r (by rfl) 38 _ _ (by rfl) 0 ([.int .i64 (n : Int), .slice c.1 c.2.1 c.2.2, .bool mo, .int .i64 v.kind, .string (str v.bytes), .slice none 0 0]) (by rfl) (by rfl) (by kernel_rfl) (by show 0 + 6 ≤ 6; decide) (by rfl) ?_; intro wz hxz hgz; have HXZ : Hid (Bx (Rl ρ15 2) wz w.heap.size ([.int .i64 (n : Int), .slice c.1 c.2.1 c.2.2, .bool mo, .int .i64 v.kind, .string (str v.bytes), .slice none 0 0])) := Lib.hid hxz; have HGZ := Lib.hid hgz; clear hxz hgz))
                          refine bodyPost_ret (results_boxT4 (vs := [.int .i64 (n : Int), .slice c.1 c.2.1 c.2.2, .bool mo, .int .i64 v.kind, .string (str v.bytes), .slice none 0 0]) rfl HXZ.out (by rfl) (by rfl) (by rfl) (by rfl) _ Tryd.underlying38 rfl (by kernel_rfl)) rfl ?_
                          exact I16.out.err HGZ.out HE.out (n := (n : Int)) (c := c) (more := mo) (v := v) (by omega) (by omega)
                        | ok p =>
                          obtain ⟨o2, bk4⟩ := p
                          have hq4m : q4 ≤ m := by have := HQ4.out.le; have := hlb.out; omega
                          have HD4 := Lib.hid HQ4.out.drop
                          clear HQ4
                          simp only [rerr_ok]
                          have HLS := Lib.hid (nms_leO HL9.out HPQ.out)
                          have HLN : Hid (nm.length ≤ 65535) := by have h := gtext_le (.ok bk2); rw [gV_ok HRT.out] at h; rw [HNM.out]; exact h
                          have HCP : Hid (colP 9223372036854775807 20 (Rl ρ15 6) w16 ⟨s, t, nm, o⟩ [.string (str s), .string (str t), .string (str nm), .int .u16 (o.id : Int), .string (str o.space), .string (str o.name), .slice A1 n1 c1, .slice A2 n2 c2]) := Lib.hid ⟨A1, n1, c1, A2, n2, c2, rfl, by have := HLS.out.1; show s.length ≤ _; omega, by have := HLS.out.2; show t.length ≤ _; omega, by have := HLN.out; show nm.length ≤ _; omega, HO16.out⟩
                          have hcl : c.2.1 ≤ 4096 := by have := I16.out.cl.len (by decide); have := HL.out; omega
                          have t1 := I16.out.t.c 1 _ rfl
                          have tl16 := I16.out.t.lt
                          have HBA := Lib.hid ((Below.refl w16.heap.size w16).alloc (Nat.le_refl _) (.cells #[.string (str s), .string (str t), .string (str nm), .int .u16 (o.id : Int), .string (str o.space), .string (str o.name), .slice A1 n1 c1, .slice A2 n2 c2] 87))
                          have IA := Lib.hid (I16.out.after HBA.out)
                          go_wp2_with (first | (refine wpList_loadB HC16.out (by rfl) 87 _ (by rfl) (by rfl) _ Tryd.underlying87 rfl (by kernel_rfl) ?_) | (at_builtin; go_loud (refine wpList_appX rfl tyC10 _ _ rfl (ρ := ρ15) (r := 5) _ _ _ cs rfl IA.out.cl _ _ _ _ [⟨s, t, nm, o⟩] rfl (arr_lit (P := colP 9223372036854775807 20 (Rl ρ15 6) _) _ #[.string (str s), .string (str t), .string (str nm), .int .u16 (o.id : Int), .string (str o.space), .string (str o.name), .slice A1 n1 c1, .slice A2 n2 c2] ⟨s, t, nm, o⟩ rfl ((goesCol _ _).after HCP.out HBA.out) (by simp)) colP_one (fun _ _ _ h => h) (by omega) (by unfold maxLen; omega) ?_); intro A17 m17 d17 w17 ρ17 hx17 hown17 hf17; have I17 := Lib.hid (IA.out.app5 (c' := (A17, m17, d17)) hf17 hx17 hown17); have HALL17 := Lib.hid ((HALL16.out.after HBA.out).stepx hf17 hx17); have t1b := I17.out.t.c 1 _ rfl; have kt1 := I17.out.t.fr 1; have tl17 := I17.out.t.lt))
                          have hf18 := I17.out.t.frPut 1 (.slice A17 m17 d17)
                          have HALL18 := Lib.hid (HALL17.out.stay hf18)
                          have I18 := Lib.hid (I17.out.put 1 (.slice A17 m17 d17) (by simp))
                          simp only [List.set_cons_zero, List.set_cons_succ] at I18
                          clear hf18
                          have HCOL : Hid (colR b0 (s9, t9) bk = .ok (⟨s, t, nm, o⟩, bk4)) := by
                            unfold colR
                            rw [bindR_ok HPQ.out, bindR_ok HRT.out, bindR_ok HRO.out, HNM.out, HO.out]
                            rfl
                          exact ⟨⟨ρ17, k + 1, cs ++ [⟨s, t, nm, o⟩], (A17, m17, d17), q4, bk4, by omega, rfl, rfl, by go_num, hq4m, HD4, I18, HALL18, by rw [List.length_append, HL.out]; rfl, getsM_snoc HG.out HCOL.out⟩, by simp [intOf]; omega⟩
                  · obtain rfl : n = k := by omega
                    have HE : Hid (r = .ok ((mkT n cs mo v, l), bk)) := by have h := HR9.out; rw [bindR_ok HG.out] at h; exact h.symm
                    go_wp2_with (first | (refine wpList_loadB I9.out.t (by rfl) 38 _ (by rfl) (by rfl) _ Tryd.underlying38 rfl (by kernel_rfl) ?_) | (refine wpList_storeB I9.out.r (by rfl) 38 _ _ (by rfl) 0 ([.int .i64 (n : Int), .slice c.1 c.2.1 c.2.2, .bool mo, .int .i64 v.kind, .string (str v.bytes), .slice none 0 0]) (by rfl) (by rfl) (by kernel_rfl) (by show 0 + 6 ≤ 6; decide) (by rfl) ?_; intro wz hxz hgz; have HXZ : Hid (Bx (Rl ρ 2) wz w.heap.size ([.int .i64 (n : Int), .slice c.1 c.2.1 c.2.2, .bool mo, .int .i64 v.kind, .string (str v.bytes), .slice none 0 0])) := Lib.hid hxz; have HGZ := Lib.hid hgz; clear hxz hgz))
                    refine bodyPost_ret (results_boxT4 (vs := [.int .i64 (n : Int), .slice c.1 c.2.1 c.2.2, .bool mo, .int .i64 v.kind, .string (str v.bytes), .slice none 0 0]) rfl HXZ.out (by rfl) (by rfl) (by rfl) (by rfl) _ Tryd.underlying38 rfl (by kernel_rfl)) rfl ?_
                    exact I9.out.done HGZ.out HE.out (by have := hlb.out; omega) HDk.out hn4
end Go.Proofs.Sb
