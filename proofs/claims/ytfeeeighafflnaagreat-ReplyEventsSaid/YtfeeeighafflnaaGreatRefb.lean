/- Walks over the reference of layer 2. Conditions: lengths up to 2^47. -/
import Derived.Test.YtfeeeighafflnaaGreatRefa
import Derived.Test.YtfeeeighafflnaaGreatArr
set_option linter.unusedVariables false
set_option linter.unusedSimpArgs false
namespace Go.Proofs.Sb
open Go.RowKit _root_.Sb

theorem rtext_any (s : B) (w : World) (hs : s.length ≤ 9223372036854775807) (r : Wr) (hr : text s = r) :
    Calls Tryz.prog 30 #[.string (str s)] w fun e w' => ∃ A n c, e = .returned (.tuple #[.slice A n c, .int .i64 (werr r)]) ∧ Own w.heap.size w' A n c (wval r) ∧ Below w.heap.size w w' := by
  subst hr
  unfold text
  by_cases h : s.length > 65535
  · rw [if_pos h]
    go_enter Tryz.func30, Tryz.ntmps30
    go_wp2_with fail
    go_ret2
    exact ⟨_, _, _, rfl, Own.nil, Below.refl _ _⟩
  · rw [if_neg h]
    go_enter Tryz.func30, Tryz.ntmps30
    go_wp2_with (first
      | (go_at_call 29; refine (rput_any _ 2 _ (by omega) (by omega) (by omega) (by omega)).mono ?_; rintro e w1 ⟨A, m, c, rfl, ho, hb⟩)
      | (at_builtin; refine wpList_apps rfl _ _ rfl w.heap.size _ _ _ _ rfl ho _ rfl (by rw [enc_length]; omega) (hb.size) ?_; intro A1 n1 c1 w1 hown1 hg1))
    go_ret2
    exact ⟨_, _, _, rfl, hown1, hb.grown hg1 hb.size (fun k hk => (ho.block k hk).1)⟩

theorem rlong_any (s : B) (w : World) (hs : s.length ≤ 140737488355324) :
    Calls Tryz.prog 63 #[.string (str s)] w fun e w' => ∃ A n c, e = .returned (.slice A n c) ∧ Own w.heap.size w' A n c (long s) ∧ Below w.heap.size w w' := by
  go_enter Tryz.func63, Tryz.ntmps63
  go_wp2_with (first
    | (go_at_call 29; refine (rput_any _ 4 _ (by omega) (by omega) (by omega) (by omega)).mono ?_; rintro e w1 ⟨A, m, c, rfl, ho, hb⟩)
    | (at_builtin; refine wpList_apps rfl _ _ rfl w.heap.size _ _ _ _ rfl ho _ rfl (by rw [enc_length]; omega) (hb.size) ?_; intro A1 n1 c1 w1 hown1 hg1))
  go_ret
  exact ⟨_, _, _, rfl, hown1, hb.grown hg1 hb.size (fun k hk => (ho.block k hk).1)⟩

set_option maxRecDepth 100000 in
theorem run_any {S : Nat → Prop} {A : Option Addr} {m c a : Nat} {bs : B} {w : World} (hs : Sl S w A m c bs) (hm : m ≤ 140737488355328) (ha : a ≤ m) (x : Int) (h0 : 0 ≤ x) (r : Res B) (hr : takeN x.toNat (bs.drop a) = r) :
    Calls Tryz.prog 64 #[.slice A m c, .int .i64 (a : Int), .int .u64 x] w fun e w' => ∃ q : Nat, e = .returned (.tuple #[.string (str (rval [] r)), .int .i64 (q : Int), .int .i64 (rerr r)]) ∧ AtR bs q r ∧ w = w' := by
  have hl := Lib.hid hs.len
  subst hr
  unfold takeN
  obtain ⟨k, rfl⟩ := Int.eq_ofNat_of_zero_le h0
  rw [Int.toNat_natCast]
  by_cases h : (bs.drop a).length < k
  · rw [if_pos h]
    have h1 : m < a + k := by rw [List.length_drop] at h; have := hl.out; omega
    clear h hl
    go_enter Tryz.func64, Tryz.ntmps64
    go_wp2_with fail
    go_ret3
    exact ⟨0, rfl, AtR.err, rfl⟩
  · rw [if_neg h]
    have h1 : a + k ≤ m := by rw [List.length_drop] at h; have := hl.out; omega
    clear h
    have hmc := hs.cap
    have hcm := hs.capMax
    have hmid := run_mid A m c a (a + k) .i64 .i64 (by omega) (by omega)
    have hcv := conv_sl (hs.mid a (a + k) (by omega) h1)
    simp only [Int.natCast_add, Nat.add_sub_cancel_left] at hmid hcv
    generalize hT : (bs.drop a).take k = T at hcv
    have HT := Lib.hid hT; clear hT
    go_enter Tryz.func64, Tryz.ntmps64
    go_wp2_with fail
    go_ret3
    refine ⟨a + k, ?_, AtR.ok (by have := hl.out; omega) (by simp [List.drop_drop]), rfl⟩
    rw [← HT.out]
    simp

theorem rgetText_any {S : Nat → Prop} {A : Option Addr} {m c a : Nat} {bs : B} {w : World} (hs : Sl S w A m c bs) (hm : m ≤ 140737488355328) (ha : a ≤ m) (r : Res B) (hr : getText (bs.drop a) = r) :
    Calls Tryz.prog 36 #[.slice A m c, .int .i64 (a : Int)] w fun e w' => ∃ q : Nat, e = .returned (.tuple #[.string (str (rval [] r)), .int .i64 (q : Int), .int .i64 (rerr r)]) ∧ AtR bs q r ∧ w = w' := by
  have hl := Lib.hid hs.len
  subst hr
  unfold getText
  cases h : getN 2 (bs.drop a) with
  | error e =>
    obtain rfl := getN_err h
    have HG := Lib.hid h; clear h
    go_enter Tryz.func36, Tryz.ntmps36
    go_wp2_with (first
      | (go_at_call 35; refine (rget_any hs ha (n := 2) (by omega) (by omega) _ HG.out).mono ?_; rintro e w1 ⟨q, rfl, hq, rfl⟩))
    go_ret3
    exact ⟨0, rfl, AtR.err, rfl⟩
  | ok p =>
    obtain ⟨n, r⟩ := p
    have HG := Lib.hid h; clear h
    obtain ⟨q, hq⟩ : ∃ q, takeN n r = q := ⟨_, rfl⟩
    have HQ := Lib.hid hq; clear hq
    simp only [HQ.out]
    go_enter Tryz.func36, Tryz.ntmps36
    go_wp2_with (first
      | (go_at_call 35; refine (rget_any hs ha (n := 2) (by omega) (by omega) _ HG.out).mono ?_; rintro e w1 ⟨p, rfl, hp, rfl⟩)
      | (go_at_call 64; refine (run_any hs hm (by have h1 := hp.le; have h2 := hl.out; omega) _ (by omega) q (by simpa [hp.drop] using HQ.out)).mono ?_; rintro e w2 ⟨q2, rfl, hq2, rfl⟩))
    go_ret3
    exact ⟨_, rfl, hq2, rfl⟩

theorem rnumber_any {S : Nat → Prop} {A : Option Addr} {m c a : Nat} {bs : B} {w : World} (hs : Sl S w A m c bs) (ha : a ≤ m) (r : Res Int) (hr : getNum (bs.drop a) = r) :
    Calls Tryz.prog 65 #[.slice A m c, .int .i64 (a : Int)] w fun e w' => ∃ q : Nat, e = .returned (.tuple #[.int .i64 (rval 0 r), .int .i64 (q : Int), .int .i64 (rerr r)]) ∧ AtR bs q r ∧ Below w.heap.size w w' := by
  have hl := Lib.hid hs.len
  subst hr
  unfold getNum
  cases h : getN 4 (bs.drop a) with
  | error e =>
    obtain rfl := getN_err h
    have HG := Lib.hid h; clear h
    go_enter Tryz.func65, Tryz.ntmps65
    go_wp2_with (first
      | (go_at_call 35; refine (rget_any hs ha (n := 4) (by omega) (by omega) _ HG.out).mono ?_; rintro e w1 ⟨q, rfl, hq, rfl⟩))
    go_ret3
    exact ⟨0, rfl, AtR.err, Below.refl _ _⟩
  | ok p =>
    obtain ⟨x, r⟩ := p
    have hx : x < 256 ^ 4 := (getN_ok h).2.2.2
    have HX := Lib.hid hx; clear hx
    have HG := Lib.hid h; clear h
    go_enter Tryz.func65, Tryz.ntmps65
    go_wp2_with (first
      | (go_at_call 35; refine (rget_any hs ha (n := 4) (by omega) (by omega) _ HG.out).mono ?_; rintro e w1 ⟨p, rfl, hp, rfl⟩)
      | (go_at_call 96; refine (rsigned_any _ 4 _ (by omega) (by omega) (by omega) (by simpa using HX.out)).mono ?_; rintro e w2 ⟨rfl, hb⟩))
    go_ret3
    exact ⟨p, rfl, AtR.ok hp.le hp.drop, hb⟩

theorem rvalue_any (v : Val) (w : World) (hm : v.bytes.length ≤ 140737488355324) (r : Wr) (hr : value v = r) :
    Calls Tryz.prog 33 #[.agg #[.int .i64 v.kind, .string (str v.bytes)]] w fun e w' => ∃ A n c, e = .returned (.tuple #[.slice A n c, .int .i64 (werr r)]) ∧ Own w.heap.size w' A n c (wval r) ∧ Below w.heap.size w w' := by
  obtain ⟨k, bs⟩ := v
  subst hr
  unfold value
  simp only at hm ⊢
  by_cases h0 : k = 0
  · subst h0
    go_enter Tryz.func33, Tryz.ntmps33
    go_wp2_with fail
    go_ret2
    exact ⟨_, _, _, rfl, own_lit (w.alloc _) _ 4 _ (by rfl) (by rfl) (by decide) (by exact (by simp)) (by simp), (by repeat (first | exact Below.refl _ _ | assumption | refine Below.drew ?_ | refine below_drewN ?_ _ | refine Below.alloc ?_ (by simp) _ | refine Below.setCell ?_ (by simp) _))⟩
  · by_cases h1 : k = 1
    · subst h1
      go_enter Tryz.func33, Tryz.ntmps33
      go_wp2_with fail
      go_ret2
      exact ⟨_, _, _, rfl, own_lit (w.alloc _) _ 4 _ (by rfl) (by rfl) (by decide) (by exact (by simp)) (by simp), (by repeat (first | exact Below.refl _ _ | assumption | refine Below.drew ?_ | refine below_drewN ?_ _ | refine Below.alloc ?_ (by simp) _ | refine Below.setCell ?_ (by simp) _))⟩
    · by_cases h2 : k = 2
      · subst h2
        go_enter Tryz.func33, Tryz.ntmps33
        go_wp2_with (first
          | (go_at_call 63; refine (rlong_any _ _ hm).mono ?_; rintro e w1 ⟨A1, m1, c1, rfl, ho, hb⟩))
        go_ret2
        exact ⟨_, _, _, rfl, ho.mono (by simp), Below.trans (by repeat (first | exact Below.refl _ _ | assumption | refine Below.drew ?_ | refine below_drewN ?_ _ | refine Below.alloc ?_ (by simp) _ | refine Below.setCell ?_ (by simp) _)) (hb.mono (by simp))⟩
      · have e0 : (k == 0) = false := by simp; omega
        have e1 : (k == 1) = false := by simp; omega
        have e2 : (k == 2) = false := by simp; omega
        go_enter Tryz.func33, Tryz.ntmps33
        go_wp2_with fail
        go_ret2
        exact ⟨_, _, _, rfl, Own.nil, (by repeat (first | exact Below.refl _ _ | assumption | refine Below.drew ?_ | refine below_drewN ?_ _ | refine Below.alloc ?_ (by simp) _ | refine Below.setCell ?_ (by simp) _))⟩

theorem rgetValue_any {S : Nat → Prop} {A : Option Addr} {m c a : Nat} {bs : B} {w : World} (hs : Sl S w A m c bs) (hm : m ≤ 140737488355328) (ha : a ≤ m) (r : Res Val) (hr : getValue (bs.drop a) = r) :
    Calls Tryz.prog 40 #[.slice A m c, .int .i64 (a : Int)] w fun e w' => ∃ q : Nat, e = .returned (.tuple #[.agg #[.int .i64 (rval Val.none r).kind, .string (str (rval Val.none r).bytes)], .int .i64 (q : Int), .int .i64 (rerr r)]) ∧ AtR bs q r ∧ Below w.heap.size w w' := by
  have hl := Lib.hid hs.len
  subst hr
  unfold getValue
  cases h : getNum (bs.drop a) with
  | error e =>
    obtain rfl := getNum_err h
    have HG := Lib.hid h; clear h
    go_enter Tryz.func40, Tryz.ntmps40
    go_wp2_with (first
      | (go_at_call 65; refine (rnumber_any (hs.after (by repeat (first | exact Below.refl _ _ | assumption | refine Below.drew ?_ | refine below_drewN ?_ _ | refine Below.alloc ?_ (by simp) _ | refine Below.setCell ?_ (by simp) _))) ha _ HG.out).mono ?_; rintro e w1 ⟨p, rfl, hp, hb⟩; have hbw1 : Below w.heap.size w w1 := Below.trans (by repeat (first | exact Below.refl _ _ | assumption | refine Below.drew ?_ | refine below_drewN ?_ _ | refine Below.alloc ?_ (by simp) _ | refine Below.setCell ?_ (by simp) _)) (hb.mono (by simp)); obtain ⟨hc, hf⟩ := bcell hb; have hz1 : w.heap.size < w1.heap.size := by (have := hb.size; simp at this; omega)))
    refine bodyPost_ret (v := .tuple #[.agg #[.int .i64 0, .string (str [])], .int .i64 0, .int .i64 10]) (by simp [results, Tryz.results40, go_sem, hc, str]) rfl ?_
    exact ⟨0, rfl, AtR.err, (by repeat (first | exact Below.refl _ _ | assumption | refine Below.drew ?_ | refine below_drewN ?_ _ | refine Below.alloc ?_ (by simp) _ | refine Below.setCell ?_ (by simp) _))⟩
  | ok p =>
    obtain ⟨n, r⟩ := p
    have hn1 := (getNum_ok h).2.2.1
    have hn2 := (getNum_ok h).2.2.2.1
    have HG := Lib.hid h; clear h
    by_cases hm1 : n = -1
    · subst hm1
      clear hn1 hn2
      go_enter Tryz.func40, Tryz.ntmps40
      go_wp2_with (first
        | (go_at_call 65; refine (rnumber_any (hs.after (by repeat (first | exact Below.refl _ _ | assumption | refine Below.drew ?_ | refine below_drewN ?_ _ | refine Below.alloc ?_ (by simp) _ | refine Below.setCell ?_ (by simp) _))) ha _ HG.out).mono ?_; rintro e w1 ⟨p, rfl, hp, hb⟩; have hbw1 : Below w.heap.size w w1 := Below.trans (by repeat (first | exact Below.refl _ _ | assumption | refine Below.drew ?_ | refine below_drewN ?_ _ | refine Below.alloc ?_ (by simp) _ | refine Below.setCell ?_ (by simp) _)) (hb.mono (by simp)); obtain ⟨hc, hf⟩ := bcell hb; have hz1 : w.heap.size < w1.heap.size := by (have := hb.size; simp at this; omega)))
      refine bodyPost_ret (v := .tuple #[.agg #[.int .i64 0, .string (str [])], .int .i64 (p : Int), .int .i64 0]) (by simp [results, Tryz.results40, go_sem, hc, str]) rfl ?_
      exact ⟨p, rfl, AtR.ok hp.le hp.drop, (by repeat (first | exact Below.refl _ _ | assumption | refine Below.drew ?_ | refine below_drewN ?_ _ | refine Below.alloc ?_ (by simp) _ | refine Below.setCell ?_ (by simp) _))⟩
    · by_cases hm2 : n = -2
      · subst hm2
        clear hn1 hn2
        go_enter Tryz.func40, Tryz.ntmps40
        go_wp2_with (first
          | (go_at_call 65; refine (rnumber_any (hs.after (by repeat (first | exact Below.refl _ _ | assumption | refine Below.drew ?_ | refine below_drewN ?_ _ | refine Below.alloc ?_ (by simp) _ | refine Below.setCell ?_ (by simp) _))) ha _ HG.out).mono ?_; rintro e w1 ⟨p, rfl, hp, hb⟩; have hbw1 : Below w.heap.size w w1 := Below.trans (by repeat (first | exact Below.refl _ _ | assumption | refine Below.drew ?_ | refine below_drewN ?_ _ | refine Below.alloc ?_ (by simp) _ | refine Below.setCell ?_ (by simp) _)) (hb.mono (by simp)); obtain ⟨hc, hf⟩ := bcell hb; have hz1 : w.heap.size < w1.heap.size := by (have := hb.size; simp at this; omega)))
        refine bodyPost_ret (v := .tuple #[.agg #[.int .i64 1, .string (str [])], .int .i64 (p : Int), .int .i64 0]) (by simp [results, Tryz.results40, go_sem, hc, str]) rfl ?_
        exact ⟨p, rfl, AtR.ok hp.le hp.drop, (by repeat (first | exact Below.refl _ _ | assumption | refine Below.drew ?_ | refine below_drewN ?_ _ | refine Below.alloc ?_ (by simp) _ | refine Below.setCell ?_ (by simp) _))⟩
      · by_cases hneg : n < 0
        · simp only [hm1, hm2, hneg, if_false, if_true]
          have e1 : (n == -1) = false := by simp; omega
          have e2 : (n == -2) = false := by simp; omega
          clear hm1 hm2
          go_enter Tryz.func40, Tryz.ntmps40
          go_wp2_with (first
            | (go_at_call 65; refine (rnumber_any (hs.after (by repeat (first | exact Below.refl _ _ | assumption | refine Below.drew ?_ | refine below_drewN ?_ _ | refine Below.alloc ?_ (by simp) _ | refine Below.setCell ?_ (by simp) _))) ha _ HG.out).mono ?_; rintro e w1 ⟨p, rfl, hp, hb⟩; have hbw1 : Below w.heap.size w w1 := Below.trans (by repeat (first | exact Below.refl _ _ | assumption | refine Below.drew ?_ | refine below_drewN ?_ _ | refine Below.alloc ?_ (by simp) _ | refine Below.setCell ?_ (by simp) _)) (hb.mono (by simp)); obtain ⟨hc, hf⟩ := bcell hb; have hz1 : w.heap.size < w1.heap.size := by (have := hb.size; simp at this; omega)))
          refine bodyPost_ret (v := .tuple #[.agg #[.int .i64 0, .string (str [])], .int .i64 0, .int .i64 11]) (by simp [results, Tryz.results40, go_sem, hc, str]) rfl ?_
          exact ⟨0, rfl, AtR.err, (by repeat (first | exact Below.refl _ _ | assumption | refine Below.drew ?_ | refine below_drewN ?_ _ | refine Below.alloc ?_ (by simp) _ | refine Below.setCell ?_ (by simp) _))⟩
        · simp only [hm1, hm2, hneg, if_false]
          obtain ⟨q, hq⟩ : ∃ q, takeN n.toNat r = q := ⟨_, rfl⟩
          have e1 : (n == -1) = false := by simp; omega
          have e2 : (n == -2) = false := by simp; omega
          clear hm1 hm2
          cases q with
          | error e =>
            obtain rfl := takeN_err hq
            have HQ := Lib.hid hq; clear hq
            simp only [HQ.out]
            go_enter Tryz.func40, Tryz.ntmps40
            go_wp2_with (first
              | (go_at_call 65; refine (rnumber_any (hs.after (by repeat (first | exact Below.refl _ _ | assumption | refine Below.drew ?_ | refine below_drewN ?_ _ | refine Below.alloc ?_ (by simp) _ | refine Below.setCell ?_ (by simp) _))) ha _ HG.out).mono ?_; rintro e w1 ⟨p, rfl, hp, hb⟩; have hbw1 : Below w.heap.size w w1 := Below.trans (by repeat (first | exact Below.refl _ _ | assumption | refine Below.drew ?_ | refine below_drewN ?_ _ | refine Below.alloc ?_ (by simp) _ | refine Below.setCell ?_ (by simp) _)) (hb.mono (by simp)); obtain ⟨hc, hf⟩ := bcell hb; have hz1 : w.heap.size < w1.heap.size := by (have := hb.size; simp at this; omega))
              | (go_at_call 64; refine (run_any (hs.after hbw1) hm (by have h1 := hp.le; have h2 := hl.out; omega) _ (by omega) _ (by simpa [hp.drop] using HQ.out)).mono ?_; rintro e w2 ⟨q2, rfl, hq2, rfl⟩))
            refine bodyPost_ret (v := .tuple #[.agg #[.int .i64 0, .string (str [])], .int .i64 0, .int .i64 10]) (by simp [results, Tryz.results40, go_sem, hc, str]) rfl ?_
            exact ⟨0, rfl, AtR.err, (by repeat (first | exact Below.refl _ _ | assumption | refine Below.drew ?_ | refine below_drewN ?_ _ | refine Below.alloc ?_ (by simp) _ | refine Below.setCell ?_ (by simp) _))⟩
          | ok y =>
            obtain ⟨x, r2⟩ := y
            have HQ := Lib.hid hq; clear hq
            simp only [HQ.out]
            go_enter Tryz.func40, Tryz.ntmps40
            go_wp2_with (first
              | (go_at_call 65; refine (rnumber_any (hs.after (by repeat (first | exact Below.refl _ _ | assumption | refine Below.drew ?_ | refine below_drewN ?_ _ | refine Below.alloc ?_ (by simp) _ | refine Below.setCell ?_ (by simp) _))) ha _ HG.out).mono ?_; rintro e w1 ⟨p, rfl, hp, hb⟩; have hbw1 : Below w.heap.size w w1 := Below.trans (by repeat (first | exact Below.refl _ _ | assumption | refine Below.drew ?_ | refine below_drewN ?_ _ | refine Below.alloc ?_ (by simp) _ | refine Below.setCell ?_ (by simp) _)) (hb.mono (by simp)); obtain ⟨hc, hf⟩ := bcell hb; have hz1 : w.heap.size < w1.heap.size := by (have := hb.size; simp at this; omega))
              | (go_at_call 64; refine (run_any (hs.after hbw1) hm (by have h1 := hp.le; have h2 := hl.out; omega) _ (by omega) _ (by simpa [hp.drop] using HQ.out)).mono ?_; rintro e w2 ⟨q2, rfl, hq2, rfl⟩))
            refine bodyPost_ret (v := .tuple #[.agg #[.int .i64 2, .string (str x)], .int .i64 (q2 : Int), .int .i64 0]) (by simp [results, Tryz.results40, go_sem, hc]) rfl ?_
            exact ⟨q2, rfl, AtR.ok hq2.le hq2.drop, (by repeat (first | exact Below.refl _ _ | assumption | refine Below.drew ?_ | refine below_drewN ?_ _ | refine Below.alloc ?_ (by simp) _ | refine Below.setCell ?_ (by simp) _))⟩
end Go.Proofs.Sb

/- Walks over signalboxref02's Inet, GetInet, Consistency, GetConsistency. Conditions: lengths up to 2^47. -/
namespace Go.Proofs.Sb
open Go.RowKit _root_.Sb

theorem rcons_any (x : Int) (w : World) (h0 : 0 ≤ x) (hx : x < 65536) (r : Wr) (hr : cons x.toNat = r) :
    Calls Tryz.prog 31 #[.int .u16 x] w fun e w' => ∃ A n c, e = .returned (.tuple #[.slice A n c, .int .i64 (werr r)]) ∧ Own w.heap.size w' A n c (wval r) ∧ Below w.heap.size w w' := by
  subst hr
  unfold cons
  by_cases h : 10 < x
  · rw [if_pos (by omega)]
    go_enter Tryz.func31, Tryz.ntmps31
    go_wp2_with fail
    go_ret2
    exact ⟨_, _, _, rfl, Own.nil, Below.refl _ _⟩
  · rw [if_neg (by omega)]
    have hw8 : IntKind.u8.wrap x = x := by rw [IntKind.wrap_u8]; omega
    go_enter Tryz.func31, Tryz.ntmps31
    go_wp2_with fail
    go_ret2
    refine ⟨_, _, _, rfl, own_lit w _ 2 (enc 2 x.toNat) ?_ (by rw [enc_length]) (by decide) (Nat.le_refl _) (by simp), (by repeat (first | exact Below.refl _ _ | assumption | refine Below.drew ?_ | refine below_drewN ?_ _ | refine Below.alloc ?_ (by simp) _ | refine Below.setCell ?_ (by simp) _))⟩
    obtain ⟨k, rfl⟩ := Int.eq_ofNat_of_zero_le h0
    have hk : k ≤ 10 := by omega
    have : k = 0 ∨ k = 1 ∨ k = 2 ∨ k = 3 ∨ k = 4 ∨ k = 5 ∨ k = 6 ∨ k = 7 ∨ k = 8 ∨ k = 9 ∨ k = 10 := by omega
    rcases this with rfl | rfl | rfl | rfl | rfl | rfl | rfl | rfl | rfl | rfl | rfl <;> rfl

theorem rgetCons_any {S : Nat → Prop} {A : Option Addr} {m c a : Nat} {bs : B} {w : World} (hs : Sl S w A m c bs) (ha : a ≤ m) (r : Res Nat) (hr : getCons (bs.drop a) = r) :
    Calls Tryz.prog 37 #[.slice A m c, .int .i64 (a : Int)] w fun e w' => ∃ q : Nat, e = .returned (.tuple #[.int .u16 (rval 0 r : Nat), .int .i64 (q : Int), .int .i64 (rerr r)]) ∧ AtR bs q r ∧ w = w' := by
  subst hr
  unfold getCons
  cases h : getN 2 (bs.drop a) with
  | error e =>
    obtain rfl := getN_err h
    have HG := Lib.hid h; clear h
    go_enter Tryz.func37, Tryz.ntmps37
    go_wp2_with fail
    refine (rget_any (n := 2) hs ha (by omega) (by omega) _ HG.out).mono ?_
    rintro e w1 ⟨p, rfl, hp, rfl⟩
    go_wp2_with fail
    go_ret3
    exact ⟨0, rfl, AtR.err, rfl⟩
  | ok p =>
    obtain ⟨x, r1⟩ := p
    have hx := (getN_ok h).2.2.2
    simp only [Nat.reducePow] at hx
    have HG := Lib.hid h; clear h
    by_cases h10 : x > 10
    · simp only [h10, if_true]
      have h10' : 10 < x := h10
      clear h10
      go_enter Tryz.func37, Tryz.ntmps37
      go_wp2_with fail
      refine (rget_any (n := 2) hs ha (by omega) (by omega) _ HG.out).mono ?_
      rintro e w1 ⟨p, rfl, hp, rfl⟩
      go_wp2_with fail
      go_ret3
      exact ⟨0, rfl, AtR.err, rfl⟩
    · simp only [h10, if_false]
      have h10' : x ≤ 10 := by omega
      clear h10
      go_enter Tryz.func37, Tryz.ntmps37
      go_wp2_with fail
      refine (rget_any (n := 2) hs ha (by omega) (by omega) _ HG.out).mono ?_
      rintro e w1 ⟨p, rfl, hp, rfl⟩
      have hpl := hp.le
      have HPD := Lib.hid hp.drop
      clear hp
      go_wp2_with fail
      go_ret3
      exact ⟨p, rfl, AtR.ok hpl HPD.out, rfl⟩

theorem gcellr {w w' : World} {row : Option Nat} (hg : w.grownBy w' row) {b o : Nat} {v : Value} (hr : some b ≠ row) (h : w.cell? ⟨b, o, none⟩ = some v) : w'.cell? ⟨b, o, none⟩ = some v :=
  (World.cell?_of_block (hg.block b (World.block_lt_of_cell? w ⟨b, o, none⟩ h) hr)).trans h
theorem bv_one8 {n : Nat} (h : n < 256) : [Value.int .u8 (n : Int)] = bv [UInt8.ofNat n] := by
  simp [bv]
  omega

set_option maxHeartbeats 1000000 in
set_option maxRecDepth 100000 in
theorem rinet_any {ad : B} {port : Nat} {w : World} (hp : port < 4294967296) (hl : ad.length ≤ 9223372036854775807) (r : Wr) (hr : inet ⟨ad, port⟩ = r) :
    Calls Tryz.prog 34 #[.agg #[.string (str ad), .int .u32 (port : Int)]] w fun e w' => ∃ A1 n1 c1, e = .returned (.tuple #[.slice A1 n1 c1, .int .i64 (werr r)]) ∧ Own w.heap.size w' A1 n1 c1 (wval r) ∧ Below w.heap.size w w' := by
  subst hr
  unfold inet
  simp only
  by_cases h4 : ad.length = 4 ∨ ad.length = 16
  · simp only [h4, if_true]
    have hwrap : IntKind.u64.wrap (port : Int) = port := by rw [IntKind.wrap_u64]; omega
    rcases h4 with h4 | h4
    · have HL := Lib.hid h4; clear h4
      have hb1 : ((ad.length : Int) != 4) = false := by rw [HL.out]; rfl
      have hb2 : ((ad.length : Int) != 16) = true := by rw [HL.out]; rfl
      have hw8 : IntKind.u8.wrap (ad.length : Int) = ad.length := by rw [IntKind.wrap_u8]; have := HL.out; omega
      have hal : ad.length < 256 := by have := HL.out; omega
      have HV := Lib.hid (bv_one8 hal)
      go_enter Tryz.func34, Tryz.ntmps34
      go_wp2_with (first | (at_builtin; refine wpList_apps rfl _ _ rfl w.heap.size _ _ _ [UInt8.ofNat ad.length] rfl (own_lit _ _ 1 [UInt8.ofNat ad.length] HV.out rfl (by decide) (by simp) (by simp)) ad rfl (by simp only [List.length_cons, List.length_nil]; omega) (by simp; omega) ?_; intro A2 n2 c2 w2 hown2 hg2; have hcb : w2.cell? ⟨w.heap.size, 1, none⟩ = some (.int .u32 (port : Int)) := (gcellr hg2 (by simp) (by go_simp)); have hz2 := hg2.size))
      have hbw2 : Below w.heap.size w w2 := Below.grown (by repeat (first | exact Below.refl _ _ | assumption | refine Below.drew ?_ | refine below_drewN ?_ _ | refine Below.alloc ?_ (by first | (simp; done) | omega | (simp; omega)) _ | refine Below.setCell ?_ (by first | (simp; done) | omega | (simp; omega)) _)) hg2 (by simp; omega) (fun k hk => by injection hk with hk; simp at hk; omega)
      have hzw2 := hbw2.size
      have hn2 := hown2.len
      rw [List.length_append] at hn2
      simp only [List.length_cons, List.length_nil] at hn2
      refine (rput_any _ 4 _ (by omega) (by omega) (by omega) (by omega)).mono ?_
      rintro e w3 ⟨A3, m3, c3, rfl, ho3, hb3⟩
      clear hn2
      go_wp2_with (first | (at_builtin; refine wpList_app rfl _ _ rfl w.heap.size _ _ _ ([UInt8.ofNat ad.length] ++ ad) rfl (hown2.after hb3) _ _ _ _ (enc 4 port) rfl (by exact ho3.sl) (by rw [List.length_append, enc_length]; simp only [List.length_cons, List.length_nil]; omega) (Nat.le_trans hzw2 hb3.size) ?_; intro A4 n4 c4 w4 hown4 hg4))
      go_ret2
      exact ⟨_, _, _, rfl, hown4, Below.grown (Below.trans hbw2 (hb3.mono hzw2)) hg4 (Nat.le_trans hzw2 hb3.size) fun k hk => (hown2.block k hk).1⟩
    · have HL := Lib.hid h4; clear h4
      have hb1 : ((ad.length : Int) != 4) = true := by rw [HL.out]; rfl
      have hb2 : ((ad.length : Int) != 16) = false := by rw [HL.out]; rfl
      have hw8 : IntKind.u8.wrap (ad.length : Int) = ad.length := by rw [IntKind.wrap_u8]; have := HL.out; omega
      have hal : ad.length < 256 := by have := HL.out; omega
      have HV := Lib.hid (bv_one8 hal)
      go_enter Tryz.func34, Tryz.ntmps34
      go_wp2_with (first | (at_builtin; refine wpList_apps rfl _ _ rfl w.heap.size _ _ _ [UInt8.ofNat ad.length] rfl (own_lit _ _ 1 [UInt8.ofNat ad.length] HV.out rfl (by decide) (by simp) (by simp)) ad rfl (by simp only [List.length_cons, List.length_nil]; omega) (by simp; omega) ?_; intro A2 n2 c2 w2 hown2 hg2; have hcb : w2.cell? ⟨w.heap.size, 1, none⟩ = some (.int .u32 (port : Int)) := (gcellr hg2 (by simp) (by go_simp)); have hz2 := hg2.size))
      have hbw2 : Below w.heap.size w w2 := Below.grown (by repeat (first | exact Below.refl _ _ | assumption | refine Below.drew ?_ | refine below_drewN ?_ _ | refine Below.alloc ?_ (by first | (simp; done) | omega | (simp; omega)) _ | refine Below.setCell ?_ (by first | (simp; done) | omega | (simp; omega)) _)) hg2 (by simp; omega) (fun k hk => by injection hk with hk; simp at hk; omega)
      have hzw2 := hbw2.size
      have hn2 := hown2.len
      rw [List.length_append] at hn2
      simp only [List.length_cons, List.length_nil] at hn2
      refine (rput_any _ 4 _ (by omega) (by omega) (by omega) (by omega)).mono ?_
      rintro e w3 ⟨A3, m3, c3, rfl, ho3, hb3⟩
      clear hn2
      go_wp2_with (first | (at_builtin; refine wpList_app rfl _ _ rfl w.heap.size _ _ _ ([UInt8.ofNat ad.length] ++ ad) rfl (hown2.after hb3) _ _ _ _ (enc 4 port) rfl (by exact ho3.sl) (by rw [List.length_append, enc_length]; simp only [List.length_cons, List.length_nil]; omega) (Nat.le_trans hzw2 hb3.size) ?_; intro A4 n4 c4 w4 hown4 hg4))
      go_ret2
      exact ⟨_, _, _, rfl, hown4, Below.grown (Below.trans hbw2 (hb3.mono hzw2)) hg4 (Nat.le_trans hzw2 hb3.size) fun k hk => (hown2.block k hk).1⟩
  · simp only [h4, if_false]
    have hb1 : ((ad.length : Int) != 4) = true := by simp; omega
    have hb2 : ((ad.length : Int) != 16) = true := by simp; omega
    clear h4
    go_enter Tryz.func34, Tryz.ntmps34
    go_wp2_with fail
    go_ret2
    exact ⟨_, _, _, rfl, Own.nil, (by repeat (first | exact Below.refl _ _ | assumption | refine Below.drew ?_ | refine below_drewN ?_ _ | refine Below.alloc ?_ (by simp) _ | refine Below.setCell ?_ (by simp) _))⟩

set_option maxHeartbeats 1000000 in
set_option maxRecDepth 100000 in
theorem rgetInet_any {S : Nat → Prop} {A : Option Addr} {m c a : Nat} {bs : B} {w : World} (hs : Sl S w A m c bs) (hm : m ≤ 140737488355328) (ha : a ≤ m) (r : Res Adr) (hr : getInet (bs.drop a) = r) :
    Calls Tryz.prog 41 #[.slice A m c, .int .i64 (a : Int)] w fun e w' => ∃ q : Nat, e = .returned (.tuple #[.agg #[.string (str (rval Adr.none r).addr), .int .u32 ((rval Adr.none r).port : Nat)], .int .i64 (q : Int), .int .i64 (rerr r)]) ∧ AtR bs q r ∧ Below w.heap.size w w' := by
  have hl := Lib.hid hs.len
  subst hr
  unfold getInet
  cases h : getN 1 (bs.drop a) with
  | error e =>
    obtain rfl := getN_err h
    have HG := Lib.hid h; clear h
    go_enter Tryz.func41, Tryz.ntmps41
    go_wp2_with fail
    refine (rget_any (n := 1) (hs.after (by repeat (first | exact Below.refl _ _ | assumption | refine Below.drew ?_ | refine below_drewN ?_ _ | refine Below.alloc ?_ (by simp) _ | refine Below.setCell ?_ (by simp) _))) ha (by omega) (by omega) _ HG.out).mono ?_
    rintro e w1 ⟨p, rfl, hp, rfl⟩
    go_wp2_with fail
    refine bodyPost_ret (v := .tuple #[.agg #[.string (str []), .int .u32 0], .int .i64 0, .int .i64 10]) (by simp [results, Tryz.results41, go_sem, str]) rfl ?_
    exact ⟨0, rfl, AtR.err, (by repeat (first | exact Below.refl _ _ | assumption | refine Below.drew ?_ | refine below_drewN ?_ _ | refine Below.alloc ?_ (by simp) _ | refine Below.setCell ?_ (by simp) _))⟩
  | ok p =>
    obtain ⟨x, r1⟩ := p
    have hx := (getN_ok h).2.2.2
    simp only [Nat.reducePow] at hx
    have HG := Lib.hid h; clear h
    by_cases h4 : x = 4 ∨ x = 16
    · simp only [h4, if_true]
      have H4 := Lib.hid h4
      cases h2 : takeN x r1 with
      | error e =>
        obtain rfl := takeN_err h2
        have HT := Lib.hid h2; clear h2
        clear H4
        rcases h4 with rfl | rfl
        all_goals
          go_enter Tryz.func41, Tryz.ntmps41
          go_wp2_with fail
          refine (rget_any (n := 1) (hs.after (by repeat (first | exact Below.refl _ _ | assumption | refine Below.drew ?_ | refine below_drewN ?_ _ | refine Below.alloc ?_ (by simp) _ | refine Below.setCell ?_ (by simp) _))) ha (by omega) (by omega) _ HG.out).mono ?_
          rintro e w1 ⟨p, rfl, hp, rfl⟩
          have hpl := hp.le
          have HPD := Lib.hid hp.drop
          clear hp
          go_wp2_with fail
          refine (run_any (hs.after (by repeat (first | exact Below.refl _ _ | assumption | refine Below.drew ?_ | refine below_drewN ?_ _ | refine Below.alloc ?_ (by simp) _ | refine Below.setCell ?_ (by simp) _))) hm (by have := hl.out; omega) _ (by omega) (.error 10) (by rw [HPD.out]; exact HT.out)).mono ?_
          rintro e w2 ⟨q2, rfl, hq2, rfl⟩
          go_wp2_with fail
          refine bodyPost_ret (v := .tuple #[.agg #[.string (str []), .int .u32 0], .int .i64 0, .int .i64 10]) (by simp [results, Tryz.results41, go_sem, str]) rfl ?_
          exact ⟨0, rfl, AtR.err, (by repeat (first | exact Below.refl _ _ | assumption | refine Below.drew ?_ | refine below_drewN ?_ _ | refine Below.alloc ?_ (by simp) _ | refine Below.setCell ?_ (by simp) _))⟩
      | ok p2 =>
        obtain ⟨y, r2⟩ := p2
        have HT := Lib.hid h2; clear h2
        simp only
        cases h3 : getN 4 r2 with
        | error e =>
          obtain rfl := getN_err h3
          have HP := Lib.hid h3; clear h3
          clear H4
          rcases h4 with rfl | rfl
          all_goals
            go_enter Tryz.func41, Tryz.ntmps41
            go_wp2_with fail
            refine (rget_any (n := 1) (hs.after (by repeat (first | exact Below.refl _ _ | assumption | refine Below.drew ?_ | refine below_drewN ?_ _ | refine Below.alloc ?_ (by simp) _ | refine Below.setCell ?_ (by simp) _))) ha (by omega) (by omega) _ HG.out).mono ?_
            rintro e w1 ⟨p, rfl, hp, rfl⟩
            have hpl := hp.le
            have HPD := Lib.hid hp.drop
            clear hp
            go_wp2_with fail
            refine (run_any (hs.after (by repeat (first | exact Below.refl _ _ | assumption | refine Below.drew ?_ | refine below_drewN ?_ _ | refine Below.alloc ?_ (by simp) _ | refine Below.setCell ?_ (by simp) _))) hm (by have := hl.out; omega) _ (by omega) (.ok (y, r2)) (by rw [HPD.out]; exact HT.out)).mono ?_
            rintro e w2 ⟨q2, rfl, hq2, rfl⟩
            have hql := hq2.le
            have HQD := Lib.hid hq2.drop
            clear hq2
            go_wp2_with fail
            refine (rget_any (n := 4) (hs.after (by repeat (first | exact Below.refl _ _ | assumption | refine Below.drew ?_ | refine below_drewN ?_ _ | refine Below.alloc ?_ (by simp) _ | refine Below.setCell ?_ (by simp) _))) (by have := hl.out; omega) (by omega) (by omega) (.error 10) (by rw [HQD.out]; exact HP.out)).mono ?_
            rintro e w3 ⟨q3, rfl, hq3, rfl⟩
            go_wp2_with fail
            refine bodyPost_ret (v := .tuple #[.agg #[.string (str []), .int .u32 0], .int .i64 0, .int .i64 10]) (by simp [results, Tryz.results41, go_sem, str]) rfl ?_
            exact ⟨0, rfl, AtR.err, (by repeat (first | exact Below.refl _ _ | assumption | refine Below.drew ?_ | refine below_drewN ?_ _ | refine Below.alloc ?_ (by simp) _ | refine Below.setCell ?_ (by simp) _))⟩
        | ok p3 =>
          obtain ⟨z, r3⟩ := p3
          have hz := (getN_ok h3).2.2.2
          simp only [Nat.reducePow] at hz
          have HP := Lib.hid h3; clear h3
          clear H4
          rcases h4 with rfl | rfl
          all_goals
            go_enter Tryz.func41, Tryz.ntmps41
            go_wp2_with fail
            refine (rget_any (n := 1) (hs.after (by repeat (first | exact Below.refl _ _ | assumption | refine Below.drew ?_ | refine below_drewN ?_ _ | refine Below.alloc ?_ (by simp) _ | refine Below.setCell ?_ (by simp) _))) ha (by omega) (by omega) _ HG.out).mono ?_
            rintro e w1 ⟨p, rfl, hp, rfl⟩
            have hpl := hp.le
            have HPD := Lib.hid hp.drop
            clear hp
            go_wp2_with fail
            refine (run_any (hs.after (by repeat (first | exact Below.refl _ _ | assumption | refine Below.drew ?_ | refine below_drewN ?_ _ | refine Below.alloc ?_ (by simp) _ | refine Below.setCell ?_ (by simp) _))) hm (by have := hl.out; omega) _ (by omega) (.ok (y, r2)) (by rw [HPD.out]; exact HT.out)).mono ?_
            rintro e w2 ⟨q2, rfl, hq2, rfl⟩
            have hql := hq2.le
            have HQD := Lib.hid hq2.drop
            clear hq2
            go_wp2_with fail
            refine (rget_any (n := 4) (hs.after (by repeat (first | exact Below.refl _ _ | assumption | refine Below.drew ?_ | refine below_drewN ?_ _ | refine Below.alloc ?_ (by simp) _ | refine Below.setCell ?_ (by simp) _))) (by have := hl.out; omega) (by omega) (by omega) (.ok (z, r3)) (by rw [HQD.out]; exact HP.out)).mono ?_
            rintro e w3 ⟨q3, rfl, hq3, rfl⟩
            have hrl := hq3.le
            have HRD := Lib.hid hq3.drop
            clear hq3
            simp only [rval_ok, rerr_ok]
            go_wp2_with fail
            refine bodyPost_ret (v := .tuple #[.agg #[.string (str y), .int .u32 (z : Int)], .int .i64 (q3 : Int), .int .i64 0]) (by simp [results, Tryz.results41, go_sem]) rfl ?_
            exact ⟨q3, rfl, AtR.ok hrl HRD.out, (by repeat (first | exact Below.refl _ _ | assumption | refine Below.drew ?_ | refine below_drewN ?_ _ | refine Below.alloc ?_ (by simp) _ | refine Below.setCell ?_ (by simp) _))⟩
    · simp only [h4, if_false]
      have hb1 : ((x : Int) != 4) = true := by simp; omega
      have hb2 : ((x : Int) != 16) = true := by simp; omega
      clear h4
      go_enter Tryz.func41, Tryz.ntmps41
      go_wp2_with fail
      refine (rget_any (n := 1) (hs.after (by repeat (first | exact Below.refl _ _ | assumption | refine Below.drew ?_ | refine below_drewN ?_ _ | refine Below.alloc ?_ (by simp) _ | refine Below.setCell ?_ (by simp) _))) ha (by omega) (by omega) _ HG.out).mono ?_
      rintro e w1 ⟨p, rfl, hp, rfl⟩
      go_wp2_with fail
      refine bodyPost_ret (v := .tuple #[.agg #[.string (str []), .int .u32 0], .int .i64 0, .int .i64 11]) (by simp [results, Tryz.results41, go_sem, str]) rfl ?_
      exact ⟨0, rfl, AtR.err, (by repeat (first | exact Below.refl _ _ | assumption | refine Below.drew ?_ | refine below_drewN ?_ _ | refine Below.alloc ?_ (by simp) _ | refine Below.setCell ?_ (by simp) _))⟩
end Go.Proofs.Sb
