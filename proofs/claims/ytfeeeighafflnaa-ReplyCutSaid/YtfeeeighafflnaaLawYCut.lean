/- The walk over signalboxlaw09.ReplyCut: true at every input, and nothing that was there has turned. Conditions: none. (written by gen_lawyc.py) -/
import Derived.Test.YtfeeeighafflnaaAwake9
import Derived.Test.YtfeeeighafflnaaCutm
import Derived.Deep.CutBlock
set_option linter.unusedVariables false
set_option linter.unusedSimpArgs false
namespace Go.Proofs.Sb
open Go.RowKit _root_.Sb

set_option maxHeartbeats 600000 in
set_option maxRecDepth 100000 in
theorem replyCut_any {S : Nat → Prop} {A : Option Addr} {n c op mo : Nat} {bs : B} {i : Int} {w : World} (hs : Sl S w A n c bs) (hop : op < 256) (hmo : mo < 256) :
    Calls Try.prog 6 #[.int .u8 (op : Int), .slice A n c, .int .i64 i, .int .u8 (mo : Int)] w fun e w' => e = .returned (.bool true) ∧ Below w.heap.size w w' := by
  have hln := hs.len
  have hcp := hs.cap
  have hcm := hs.capMax
  have HLN := Lib.hid hln; clear hln
  have HS := Lib.hid hs; clear hs
  obtain ⟨kk, hkk, hand⟩ := and_ex i
  have HAND := Lib.hid hand; clear hand
  obtain ⟨mb, hmb⟩ : ∃ x : UInt8, x.toNat = mo := ⟨UInt8.ofNat mo, by simp; omega⟩
  have HMB := Lib.hid hmb; clear hmb
  have hbv : (#[Value.int .u8 (mo : Int)] : Array Value).toList = bv [mb] := by rw [← HMB.out]; rfl
  have HBV := Lib.hid hbv; clear hbv
  obtain ⟨r, hr⟩ : ∃ r, getRp op bs = r := ⟨_, rfl⟩
  have HR := Lib.hid hr; clear hr
  go_enter Try.func6, Try.ntmps6
  go_wp2_with fail
  refine (awake9 _).mono ?_
  rintro e w1 ⟨rfl, hb1⟩
  have HB1 := Lib.hid hb1; clear hb1
  by_cases hbig : 2000 < n
  · go_wp2_with fail
    go_ret
    exact ⟨rfl, HB1.out⟩
  · go_wp2_with fail
    refine (rGet9_any (op := op) (HS.out.after HB1.out) (by omega) r HR.out).mono ?_
    rintro e w2 ⟨t2, rfl, hq2, hb2⟩
    have HB2 := Lib.hid (HB1.out.trans (hb2.mono HB1.out.size))
    clear hq2 hb2
    obtain ⟨vs, hvs⟩ : ∃ vs, vs = rpT (rpOf r) t2 := ⟨_, rfl⟩
    have hvl : vs.length = 34 := by rw [hvs]; rfl
    have hone : vs.all (·.oneCell') = true := by rw [hvs]; rfl
    have hv26 : vs[26]? = some (.int .u32 (((rpOf r).kind : Nat) : Int)) := by rw [hvs]; rfl
    rw [← hvs]
    clear hvs
    cases r with
    | error e =>
      have hne := getRp_ne HR.out
      have hne2 : (e != 0) = true := bne_iff_ne.2 hne
      rw [show erP (.error e) = e from rfl]
      go_wp2_with (first | (refine wpList_store_newB (by rfl) 39 _ _ (by rfl) _ _ _ _ (by rfl) (by rfl) (by simp) (by rfl) (by rw [hvl]; kernel_rfl) (by rw [hvl]; rfl) hone ?_; intro w3 hb3 hz3 hx3; have p26 := hx3.c 26 _ hv26; clear hz3 hx3; have HB3 := Lib.hid (HB2.out.trans (hb3.mono HB2.out.size)); clear hb3))
      go_ret
      exact ⟨rfl, HB3.out⟩
    | ok q =>
      rw [show erP (.ok q) = 0 from rfl]
      have hv26' : vs[26]? = some (.int .u32 ((q.kind : Nat) : Int)) := hv26
      clear hv26
      by_cases ho : op = 8
      · have n8 : ((op : Int) == 8) = true := by rw [ho]; rfl
        by_cases hk2 : q.kind = 2
        · have m2 : ((q.kind : Int) == 2) = true := by rw [hk2]; rfl
          clear ho hk2
          go_wp2_with (first | (refine wpList_store_newB (by rfl) 39 _ _ (by rfl) _ _ _ _ (by rfl) (by rfl) (by simp) (by rfl) (by rw [hvl]; kernel_rfl) (by rw [hvl]; rfl) hone ?_; intro w3 hb3 hz3 hx3; have p26 := hx3.c 26 _ hv26'; clear hz3 hx3; have HB3 := Lib.hid (HB2.out.trans (hb3.mono HB2.out.size)); clear hb3))
          go_ret
          exact ⟨rfl, HB3.out⟩
        · have m2 : ((q.kind : Int) == 2) = false := beq_eq_false_iff_ne.2 (by omega)
          by_cases hk4 : q.kind = 4
          · have m4 : ((q.kind : Int) == 4) = true := by rw [hk4]; rfl
            clear ho hk2 hk4
            go_wp2_with (first | (refine wpList_store_newB (by rfl) 39 _ _ (by rfl) _ _ _ _ (by rfl) (by rfl) (by simp) (by rfl) (by rw [hvl]; kernel_rfl) (by rw [hvl]; rfl) hone ?_; intro w3 hb3 hz3 hx3; have p26 := hx3.c 26 _ hv26'; clear hz3 hx3; have HB3 := Lib.hid (HB2.out.trans (hb3.mono HB2.out.size)); clear hb3))
            go_ret
            exact ⟨rfl, HB3.out⟩
          · have m4 : ((q.kind : Int) == 4) = false := beq_eq_false_iff_ne.2 (by omega)
            have HK : Hid (¬ (op = 8 ∧ (q.kind = 2 ∨ q.kind = 4))) := Lib.hid (by omega)
            clear ho hk2 hk4
            go_upto_region 7 with (first | (refine wpList_store_newB (by rfl) 39 _ _ (by rfl) _ _ _ _ (by rfl) (by rfl) (by simp) (by rfl) (by rw [hvl]; kernel_rfl) (by rw [hvl]; rfl) hone ?_; intro w3 hb3 hz3 hx3; have p26 := hx3.c 26 _ hv26'; clear hz3 hx3; have HB3 := Lib.hid (HB2.out.trans (hb3.mono HB2.out.size)); clear hb3))
            go_wp2_with (first | (at_builtin; refine wpList_appw rfl _ _ rfl w.heap.size _ _ _ [] rfl Own.nil _ _ _ _ bs rfl (HS.out.after HB3.out) (by have := HLN.out; simp only [List.length_nil]; omega) (by have := HB3.out.size; omega) ?_; intro A4 n4 c4 w4 ho4 hg4 hw4; have HO4 := Lib.hid ho4; have HB4 := Lib.hid (below_grow HB3.out hg4 (by have := HB3.out.size; omega) (fun k e => by cases e)); clear ho4 hg4 hw4 p26) | (at_builtin; refine wpList_appw rfl _ _ rfl w.heap.size _ _ _ bs rfl (HO4.out.after (by repeat (first | exact Below.refl _ _ | assumption | refine Below.drew ?_ | refine below_drewN ?_ _ | refine Below.alloc ?_ (by first | (simp; done) | omega | (simp; omega)) _ | refine Below.setCell ?_ (by first | (simp; done) | omega | (simp; omega)) _))) _ _ _ _ [mb] rfl (sl_lit _ _ 1 [mb] HBV.out rfl (by decide) rfl) (by have := HLN.out; simp only [List.length_cons, List.length_nil]; omega) (by have := HB4.out.size; simp; omega) ?_; intro A5 n5 c5 w5 ho5 hg5 hw5; have HO5 := Lib.hid ho5; have HB5 := Lib.hid (below_grow (Below.trans HB4.out (Below.mono (show Below w4.heap.size w4 _ from (by repeat (first | exact Below.refl _ _ | assumption | refine Below.drew ?_ | refine below_drewN ?_ _ | refine Below.alloc ?_ (by first | (simp; done) | omega | (simp; omega)) _ | refine Below.setCell ?_ (by first | (simp; done) | omega | (simp; omega)) _))) HB4.out.size)) hg5 (by have := HB4.out.size; simp; omega) (fun k e => (HO4.out.block k e).1)); clear ho5 hg5 hw5))
            refine (rGet9_any (op := op) HO5.out.sl (by have := HO5.out.len; have := HLN.out; simp only [List.length_append, List.length_cons, List.length_nil] at *; omega) (.error 23) (getRp_more mb HR.out HK.out)).mono ?_
            rintro e w6 ⟨t6, rfl, hq6, hb6⟩
            have HB6 := Lib.hid (HB5.out.trans (hb6.mono HB5.out.size))
            clear hq6 hb6
            rw [show erP (.error 23) = 23 from rfl, show rpOf (.error 23) = Rp.none from rfl]
            by_cases h0 : n = 0
            · subst h0
              go_wp2_with (first | (refine wpList_store_newB (by rfl) 39 _ _ (by rfl) _ _ _ _ (by rfl) (by rfl) (by simp) (by rfl) (by kernel_rfl) (by rfl) (by rfl) ?_; intro w7 hb7 hz7 hx7; skip; clear hz7 hx7; have HB7 := Lib.hid (HB6.out.trans (hb7.mono HB6.out.size)); clear hb7))
              go_ret
              exact ⟨rfl, HB7.out⟩
            · have hn0 : 0 < n := by omega
              have h00 : ((n : Int) == 0) = false := by simp; omega
              have hn9 : n ≤ 2000 := by omega
              have hmod := Nat.mod_lt kk hn0
              have HC : Hid (getRp op (bs.take (kk % n)) = .error 10) := Lib.hid (getRp_cut HR.out HK.out (by rw [← HLN.out]; exact hmod))
              have hand := HAND.out
              have hcut3 := run_headm A n c kk hn0 hcp
              have H0 := Lib.hid h0; clear h0
              go_wp2_with (first | (refine wpList_store_newB (by rfl) 39 _ _ (by rfl) _ _ _ _ (by rfl) (by rfl) (by simp) (by rfl) (by kernel_rfl) (by rfl) (by rfl) ?_; intro w7 hb7 hz7 hx7; skip; clear hz7 hx7; have HB7 := Lib.hid (HB6.out.trans (hb7.mono HB6.out.size)); clear hb7))
              refine (rGet9_any (op := op) ((HS.out.after HB7.out).take (kk % n) (by omega)) (by omega) (.error 10) HC.out).mono ?_
              rintro e w8 ⟨t8, rfl, hq8, hb8⟩
              have HB8 := Lib.hid (HB7.out.trans (hb8.mono HB7.out.size))
              clear hq8 hb8
              rw [show erP (.error 10) = 10 from rfl, show rpOf (.error 10) = Rp.none from rfl]
              go_wp2_with (first | (refine wpList_store_newB (by rfl) 39 _ _ (by rfl) _ _ _ _ (by rfl) (by rfl) (by simp) (by rfl) (by kernel_rfl) (by rfl) (by rfl) ?_; intro w9 hb9 hz9 hx9; skip; clear hz9 hx9; have HB9 := Lib.hid (HB8.out.trans (hb9.mono HB8.out.size)); clear hb9))
              go_ret
              exact ⟨rfl, HB9.out⟩
      · have n8 : ((op : Int) == 8) = false := beq_eq_false_iff_ne.2 (by omega)
        have HK : Hid (¬ (op = 8 ∧ (q.kind = 2 ∨ q.kind = 4))) := Lib.hid (by omega)
        clear ho
        go_upto_region 7 with (first | (refine wpList_store_newB (by rfl) 39 _ _ (by rfl) _ _ _ _ (by rfl) (by rfl) (by simp) (by rfl) (by rw [hvl]; kernel_rfl) (by rw [hvl]; rfl) hone ?_; intro w3 hb3 hz3 hx3; have p26 := hx3.c 26 _ hv26'; clear hz3 hx3; have HB3 := Lib.hid (HB2.out.trans (hb3.mono HB2.out.size)); clear hb3))
        go_wp2_with (first | (at_builtin; refine wpList_appw rfl _ _ rfl w.heap.size _ _ _ [] rfl Own.nil _ _ _ _ bs rfl (HS.out.after HB3.out) (by have := HLN.out; simp only [List.length_nil]; omega) (by have := HB3.out.size; omega) ?_; intro A4 n4 c4 w4 ho4 hg4 hw4; have HO4 := Lib.hid ho4; have HB4 := Lib.hid (below_grow HB3.out hg4 (by have := HB3.out.size; omega) (fun k e => by cases e)); clear ho4 hg4 hw4 p26) | (at_builtin; refine wpList_appw rfl _ _ rfl w.heap.size _ _ _ bs rfl (HO4.out.after (by repeat (first | exact Below.refl _ _ | assumption | refine Below.drew ?_ | refine below_drewN ?_ _ | refine Below.alloc ?_ (by first | (simp; done) | omega | (simp; omega)) _ | refine Below.setCell ?_ (by first | (simp; done) | omega | (simp; omega)) _))) _ _ _ _ [mb] rfl (sl_lit _ _ 1 [mb] HBV.out rfl (by decide) rfl) (by have := HLN.out; simp only [List.length_cons, List.length_nil]; omega) (by have := HB4.out.size; simp; omega) ?_; intro A5 n5 c5 w5 ho5 hg5 hw5; have HO5 := Lib.hid ho5; have HB5 := Lib.hid (below_grow (Below.trans HB4.out (Below.mono (show Below w4.heap.size w4 _ from (by repeat (first | exact Below.refl _ _ | assumption | refine Below.drew ?_ | refine below_drewN ?_ _ | refine Below.alloc ?_ (by first | (simp; done) | omega | (simp; omega)) _ | refine Below.setCell ?_ (by first | (simp; done) | omega | (simp; omega)) _))) HB4.out.size)) hg5 (by have := HB4.out.size; simp; omega) (fun k e => (HO4.out.block k e).1)); clear ho5 hg5 hw5))
        refine (rGet9_any (op := op) HO5.out.sl (by have := HO5.out.len; have := HLN.out; simp only [List.length_append, List.length_cons, List.length_nil] at *; omega) (.error 23) (getRp_more mb HR.out HK.out)).mono ?_
        rintro e w6 ⟨t6, rfl, hq6, hb6⟩
        have HB6 := Lib.hid (HB5.out.trans (hb6.mono HB5.out.size))
        clear hq6 hb6
        rw [show erP (.error 23) = 23 from rfl, show rpOf (.error 23) = Rp.none from rfl]
        by_cases h0 : n = 0
        · subst h0
          go_wp2_with (first | (refine wpList_store_newB (by rfl) 39 _ _ (by rfl) _ _ _ _ (by rfl) (by rfl) (by simp) (by rfl) (by kernel_rfl) (by rfl) (by rfl) ?_; intro w7 hb7 hz7 hx7; skip; clear hz7 hx7; have HB7 := Lib.hid (HB6.out.trans (hb7.mono HB6.out.size)); clear hb7))
          go_ret
          exact ⟨rfl, HB7.out⟩
        · have hn0 : 0 < n := by omega
          have h00 : ((n : Int) == 0) = false := by simp; omega
          have hn9 : n ≤ 2000 := by omega
          have hmod := Nat.mod_lt kk hn0
          have HC : Hid (getRp op (bs.take (kk % n)) = .error 10) := Lib.hid (getRp_cut HR.out HK.out (by rw [← HLN.out]; exact hmod))
          have hand := HAND.out
          have hcut3 := run_headm A n c kk hn0 hcp
          have H0 := Lib.hid h0; clear h0
          go_wp2_with (first | (refine wpList_store_newB (by rfl) 39 _ _ (by rfl) _ _ _ _ (by rfl) (by rfl) (by simp) (by rfl) (by kernel_rfl) (by rfl) (by rfl) ?_; intro w7 hb7 hz7 hx7; skip; clear hz7 hx7; have HB7 := Lib.hid (HB6.out.trans (hb7.mono HB6.out.size)); clear hb7))
          refine (rGet9_any (op := op) ((HS.out.after HB7.out).take (kk % n) (by omega)) (by omega) (.error 10) HC.out).mono ?_
          rintro e w8 ⟨t8, rfl, hq8, hb8⟩
          have HB8 := Lib.hid (HB7.out.trans (hb8.mono HB7.out.size))
          clear hq8 hb8
          rw [show erP (.error 10) = 10 from rfl, show rpOf (.error 10) = Rp.none from rfl]
          go_wp2_with (first | (refine wpList_store_newB (by rfl) 39 _ _ (by rfl) _ _ _ _ (by rfl) (by rfl) (by simp) (by rfl) (by kernel_rfl) (by rfl) (by rfl) ?_; intro w9 hb9 hz9 hx9; skip; clear hz9 hx9; have HB9 := Lib.hid (HB8.out.trans (hb9.mono HB8.out.size)); clear hb9))
          go_ret
          exact ⟨rfl, HB9.out⟩
end Go.Proofs.Sb
