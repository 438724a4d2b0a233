/- Walks over the reference of layer 2. Conditions: lengths up to 2^47. -/
import Derived.Test.YtenhgcgdhaegaaaDoorRefa
import Derived.Test.YtenhgcgdhaegaaaDoorArr
set_option linter.unusedVariables false
set_option linter.unusedSimpArgs false
namespace Go.Proofs.Sb
open Go.RowKit _root_.Sb

theorem rtext_any (s : B) (w : World) (hs : s.length ≤ 9223372036854775807) (r : Wr) (hr : text s = r) :
    Calls Tryd.prog 40 #[.string (str s)] w fun e w' => ∃ A n c, e = .returned (.tuple #[.slice A n c, .int .i64 (werr r)]) ∧ Own w.heap.size w' A n c (wval r) ∧ Below w.heap.size w w' := by
  subst hr
  unfold text
  by_cases h : s.length > 65535
  · rw [if_pos h]
    go_enter Tryd.func40, Tryd.ntmps40
    go_wp2_with fail
    go_ret2
    exact ⟨_, _, _, rfl, Own.nil, Below.refl _ _⟩
  · rw [if_neg h]
    go_enter Tryd.func40, Tryd.ntmps40
    go_wp2_with (first
      | (go_at_call 38; refine (rput_any _ 2 _ (by omega) (by omega) (by omega) (by omega)).mono ?_; rintro e w1 ⟨A, m, c, rfl, ho, hb⟩)
      | (at_builtin; refine wpList_apps rfl _ _ rfl w.heap.size _ _ _ _ rfl ho _ rfl (by rw [enc_length]; omega) (hb.size) ?_; intro A1 n1 c1 w1 hown1 hg1))
    go_ret2
    exact ⟨_, _, _, rfl, hown1, hb.grown hg1 hb.size (fun k hk => (ho.block k hk).1)⟩

theorem rlong_any (s : B) (w : World) (hs : s.length ≤ 140737488355324) :
    Calls Tryd.prog 70 #[.string (str s)] w fun e w' => ∃ A n c, e = .returned (.slice A n c) ∧ Own w.heap.size w' A n c (long s) ∧ Below w.heap.size w w' := by
  go_enter Tryd.func70, Tryd.ntmps70
  go_wp2_with (first
    | (go_at_call 38; refine (rput_any _ 4 _ (by omega) (by omega) (by omega) (by omega)).mono ?_; rintro e w1 ⟨A, m, c, rfl, ho, hb⟩)
    | (at_builtin; refine wpList_apps rfl _ _ rfl w.heap.size _ _ _ _ rfl ho _ rfl (by rw [enc_length]; omega) (hb.size) ?_; intro A1 n1 c1 w1 hown1 hg1))
  go_ret
  exact ⟨_, _, _, rfl, hown1, hb.grown hg1 hb.size (fun k hk => (ho.block k hk).1)⟩

set_option maxRecDepth 100000 in
theorem run_any {S : Nat → Prop} {A : Option Addr} {m c a : Nat} {bs : B} {w : World} (hs : Sl S w A m c bs) (hm : m ≤ 140737488355328) (ha : a ≤ m) (x : Int) (h0 : 0 ≤ x) (r : Res B) (hr : takeN x.toNat (bs.drop a) = r) :
    Calls Tryd.prog 59 #[.slice A m c, .int .i64 (a : Int), .int .u64 x] w fun e w' => ∃ q : Nat, e = .returned (.tuple #[.string (str (rval [] r)), .int .i64 (q : Int), .int .i64 (rerr r)]) ∧ AtR bs q r ∧ w = w' := by
  have hl := Lib.hid hs.len
  subst hr
  unfold takeN
  obtain ⟨k, rfl⟩ := Int.eq_ofNat_of_zero_le h0
  rw [Int.toNat_natCast]
  by_cases h : (bs.drop a).length < k
  · rw [if_pos h]
    have h1 : m < a + k := by rw [List.length_drop] at h; have := hl.out; omega
    clear h hl
    go_enter Tryd.func59, Tryd.ntmps59
    go_wp2_with fail
    go_ret3
    exact ⟨0, rfl, AtR.err, rfl⟩
  · rw [if_neg h]
    have h1 : a + k ≤ m := by rw [List.length_drop] at h; have := hl.out; omega
    clear h
    have hmc := hs.cap
    have hcm := hs.capMax
    have hmid := run_mid A m c a (a + k) .i64 .i64 (by omega) (by omega)
    have hcv := conv_sl (hs.mid a (a + k) (by omega) h1)
    simp only [Int.natCast_add, Nat.add_sub_cancel_left] at hmid hcv
    generalize hT : (bs.drop a).take k = T at hcv
    have HT := Lib.hid hT; clear hT
    go_enter Tryd.func59, Tryd.ntmps59
    go_wp2_with fail
    go_ret3
    refine ⟨a + k, ?_, AtR.ok (by have := hl.out; omega) (by simp [List.drop_drop]), rfl⟩
    rw [← HT.out]
    simp

theorem rgetText_any {S : Nat → Prop} {A : Option Addr} {m c a : Nat} {bs : B} {w : World} (hs : Sl S w A m c bs) (hm : m ≤ 140737488355328) (ha : a ≤ m) (r : Res B) (hr : getText (bs.drop a) = r) :
    Calls Tryd.prog 57 #[.slice A m c, .int .i64 (a : Int)] w fun e w' => ∃ q : Nat, e = .returned (.tuple #[.string (str (rval [] r)), .int .i64 (q : Int), .int .i64 (rerr r)]) ∧ AtR bs q r ∧ w = w' := by
  have hl := Lib.hid hs.len
  subst hr
  unfold getText
  cases h : getN 2 (bs.drop a) with
  | error e =>
    obtain rfl := getN_err h
    have HG := Lib.hid h; clear h
    go_enter Tryd.func57, Tryd.ntmps57
    go_wp2_with (first
      | (go_at_call 55; refine (rget_any hs ha (n := 2) (by omega) (by omega) _ HG.out).mono ?_; rintro e w1 ⟨q, rfl, hq, rfl⟩))
    go_ret3
    exact ⟨0, rfl, AtR.err, rfl⟩
  | ok p =>
    obtain ⟨n, r⟩ := p
    have HG := Lib.hid h; clear h
    obtain ⟨q, hq⟩ : ∃ q, takeN n r = q := ⟨_, rfl⟩
    have HQ := Lib.hid hq; clear hq
    simp only [HQ.out]
    go_enter Tryd.func57, Tryd.ntmps57
    go_wp2_with (first
      | (go_at_call 55; refine (rget_any hs ha (n := 2) (by omega) (by omega) _ HG.out).mono ?_; rintro e w1 ⟨p, rfl, hp, rfl⟩)
      | (go_at_call 59; refine (run_any hs hm (by have h1 := hp.le; have h2 := hl.out; omega) _ (by omega) q (by simpa [hp.drop] using HQ.out)).mono ?_; rintro e w2 ⟨q2, rfl, hq2, rfl⟩))
    go_ret3
    exact ⟨_, rfl, hq2, rfl⟩

theorem rnumber_any {S : Nat → Prop} {A : Option Addr} {m c a : Nat} {bs : B} {w : World} (hs : Sl S w A m c bs) (ha : a ≤ m) (r : Res Int) (hr : getNum (bs.drop a) = r) :
    Calls Tryd.prog 54 #[.slice A m c, .int .i64 (a : Int)] w fun e w' => ∃ q : Nat, e = .returned (.tuple #[.int .i64 (rval 0 r), .int .i64 (q : Int), .int .i64 (rerr r)]) ∧ AtR bs q r ∧ Below w.heap.size w w' := by
  have hl := Lib.hid hs.len
  subst hr
  unfold getNum
  cases h : getN 4 (bs.drop a) with
  | error e =>
    obtain rfl := getN_err h
    have HG := Lib.hid h; clear h
    go_enter Tryd.func54, Tryd.ntmps54
    go_wp2_with (first
      | (go_at_call 55; refine (rget_any hs ha (n := 4) (by omega) (by omega) _ HG.out).mono ?_; rintro e w1 ⟨q, rfl, hq, rfl⟩))
    go_ret3
    exact ⟨0, rfl, AtR.err, Below.refl _ _⟩
  | ok p =>
    obtain ⟨x, r⟩ := p
    have hx : x < 256 ^ 4 := (getN_ok h).2.2.2
    have HX := Lib.hid hx; clear hx
    have HG := Lib.hid h; clear h
    go_enter Tryd.func54, Tryd.ntmps54
    go_wp2_with (first
      | (go_at_call 55; refine (rget_any hs ha (n := 4) (by omega) (by omega) _ HG.out).mono ?_; rintro e w1 ⟨p, rfl, hp, rfl⟩)
      | (go_at_call 81; refine (rsigned_any _ 4 _ (by omega) (by omega) (by omega) (by simpa using HX.out)).mono ?_; rintro e w2 ⟨rfl, hb⟩))
    go_ret3
    exact ⟨p, rfl, AtR.ok hp.le hp.drop, hb⟩

theorem rvalue_any (v : Val) (w : World) (hm : v.bytes.length ≤ 140737488355324) (r : Wr) (hr : value v = r) :
    Calls Tryd.prog 39 #[.agg #[.int .i64 v.kind, .string (str v.bytes)]] w fun e w' => ∃ A n c, e = .returned (.tuple #[.slice A n c, .int .i64 (werr r)]) ∧ Own w.heap.size w' A n c (wval r) ∧ Below w.heap.size w w' := by
  obtain ⟨k, bs⟩ := v
  subst hr
  unfold value
  simp only at hm ⊢
  by_cases h0 : k = 0
  · subst h0
    go_enter Tryd.func39, Tryd.ntmps39
    go_wp2_with fail
    go_ret2
    exact ⟨_, _, _, rfl, own_lit (w.alloc _) _ 4 _ (by rfl) (by rfl) (by decide) (by exact (by simp)) (by simp), (by repeat (first | exact Below.refl _ _ | assumption | refine Below.drew ?_ | refine below_drewN ?_ _ | refine Below.alloc ?_ (by simp) _ | refine Below.setCell ?_ (by simp) _))⟩
  · by_cases h1 : k = 1
    · subst h1
      go_enter Tryd.func39, Tryd.ntmps39
      go_wp2_with fail
      go_ret2
      exact ⟨_, _, _, rfl, own_lit (w.alloc _) _ 4 _ (by rfl) (by rfl) (by decide) (by exact (by simp)) (by simp), (by repeat (first | exact Below.refl _ _ | assumption | refine Below.drew ?_ | refine below_drewN ?_ _ | refine Below.alloc ?_ (by simp) _ | refine Below.setCell ?_ (by simp) _))⟩
    · by_cases h2 : k = 2
      · subst h2
        go_enter Tryd.func39, Tryd.ntmps39
        go_wp2_with (first
          | (go_at_call 70; refine (rlong_any _ _ hm).mono ?_; rintro e w1 ⟨A1, m1, c1, rfl, ho, hb⟩))
        go_ret2
        exact ⟨_, _, _, rfl, ho.mono (by simp), Below.trans (by repeat (first | exact Below.refl _ _ | assumption | refine Below.drew ?_ | refine below_drewN ?_ _ | refine Below.alloc ?_ (by simp) _ | refine Below.setCell ?_ (by simp) _)) (hb.mono (by simp))⟩
      · have e0 : (k == 0) = false := by simp; omega
        have e1 : (k == 1) = false := by simp; omega
        have e2 : (k == 2) = false := by simp; omega
        go_enter Tryd.func39, Tryd.ntmps39
        go_wp2_with fail
        go_ret2
        exact ⟨_, _, _, rfl, Own.nil, (by repeat (first | exact Below.refl _ _ | assumption | refine Below.drew ?_ | refine below_drewN ?_ _ | refine Below.alloc ?_ (by simp) _ | refine Below.setCell ?_ (by simp) _))⟩

theorem rgetValue_any {S : Nat → Prop} {A : Option Addr} {m c a : Nat} {bs : B} {w : World} (hs : Sl S w A m c bs) (hm : m ≤ 140737488355328) (ha : a ≤ m) (r : Res Val) (hr : getValue (bs.drop a) = r) :
    Calls Tryd.prog 29 #[.slice A m c, .int .i64 (a : Int)] w fun e w' => ∃ q : Nat, e = .returned (.tuple #[.agg #[.int .i64 (rval Val.none r).kind, .string (str (rval Val.none r).bytes)], .int .i64 (q : Int), .int .i64 (rerr r)]) ∧ AtR bs q r ∧ Below w.heap.size w w' := by
  have hl := Lib.hid hs.len
  subst hr
  unfold getValue
  cases h : getNum (bs.drop a) with
  | error e =>
    obtain rfl := getNum_err h
    have HG := Lib.hid h; clear h
    go_enter Tryd.func29, Tryd.ntmps29
    go_wp2_with (first
      | (go_at_call 54; refine (rnumber_any (hs.after (by repeat (first | exact Below.refl _ _ | assumption | refine Below.drew ?_ | refine below_drewN ?_ _ | refine Below.alloc ?_ (by simp) _ | refine Below.setCell ?_ (by simp) _))) ha _ HG.out).mono ?_; rintro e w1 ⟨p, rfl, hp, hb⟩; have hbw1 : Below w.heap.size w w1 := Below.trans (by repeat (first | exact Below.refl _ _ | assumption | refine Below.drew ?_ | refine below_drewN ?_ _ | refine Below.alloc ?_ (by simp) _ | refine Below.setCell ?_ (by simp) _)) (hb.mono (by simp)); obtain ⟨hc, hf⟩ := bcell hb; have hz1 : w.heap.size < w1.heap.size := by (have := hb.size; simp at this; omega)))
    refine bodyPost_ret (v := .tuple #[.agg #[.int .i64 0, .string (str [])], .int .i64 0, .int .i64 10]) (by simp [results, Tryd.results29, go_sem, hc, str]) rfl ?_
    exact ⟨0, rfl, AtR.err, (by repeat (first | exact Below.refl _ _ | assumption | refine Below.drew ?_ | refine below_drewN ?_ _ | refine Below.alloc ?_ (by simp) _ | refine Below.setCell ?_ (by simp) _))⟩
  | ok p =>
    obtain ⟨n, r⟩ := p
    have hn1 := (getNum_ok h).2.2.1
    have hn2 := (getNum_ok h).2.2.2.1
    have HG := Lib.hid h; clear h
    by_cases hm1 : n = -1
    · subst hm1
      clear hn1 hn2
      go_enter Tryd.func29, Tryd.ntmps29
      go_wp2_with (first
        | (go_at_call 54; refine (rnumber_any (hs.after (by repeat (first | exact Below.refl _ _ | assumption | refine Below.drew ?_ | refine below_drewN ?_ _ | refine Below.alloc ?_ (by simp) _ | refine Below.setCell ?_ (by simp) _))) ha _ HG.out).mono ?_; rintro e w1 ⟨p, rfl, hp, hb⟩; have hbw1 : Below w.heap.size w w1 := Below.trans (by repeat (first | exact Below.refl _ _ | assumption | refine Below.drew ?_ | refine below_drewN ?_ _ | refine Below.alloc ?_ (by simp) _ | refine Below.setCell ?_ (by simp) _)) (hb.mono (by simp)); obtain ⟨hc, hf⟩ := bcell hb; have hz1 : w.heap.size < w1.heap.size := by (have := hb.size; simp at this; omega)))
      refine bodyPost_ret (v := .tuple #[.agg #[.int .i64 0, .string (str [])], .int .i64 (p : Int), .int .i64 0]) (by simp [results, Tryd.results29, go_sem, hc, str]) rfl ?_
      exact ⟨p, rfl, AtR.ok hp.le hp.drop, (by repeat (first | exact Below.refl _ _ | assumption | refine Below.drew ?_ | refine below_drewN ?_ _ | refine Below.alloc ?_ (by simp) _ | refine Below.setCell ?_ (by simp) _))⟩
    · by_cases hm2 : n = -2
      · subst hm2
        clear hn1 hn2
        go_enter Tryd.func29, Tryd.ntmps29
        go_wp2_with (first
          | (go_at_call 54; refine (rnumber_any (hs.after (by repeat (first | exact Below.refl _ _ | assumption | refine Below.drew ?_ | refine below_drewN ?_ _ | refine Below.alloc ?_ (by simp) _ | refine Below.setCell ?_ (by simp) _))) ha _ HG.out).mono ?_; rintro e w1 ⟨p, rfl, hp, hb⟩; have hbw1 : Below w.heap.size w w1 := Below.trans (by repeat (first | exact Below.refl _ _ | assumption | refine Below.drew ?_ | refine below_drewN ?_ _ | refine Below.alloc ?_ (by simp) _ | refine Below.setCell ?_ (by simp) _)) (hb.mono (by simp)); obtain ⟨hc, hf⟩ := bcell hb; have hz1 : w.heap.size < w1.heap.size := by (have := hb.size; simp at this; omega)))
        refine bodyPost_ret (v := .tuple #[.agg #[.int .i64 1, .string (str [])], .int .i64 (p : Int), .int .i64 0]) (by simp [results, Tryd.results29, go_sem, hc, str]) rfl ?_
        exact ⟨p, rfl, AtR.ok hp.le hp.drop, (by repeat (first | exact Below.refl _ _ | assumption | refine Below.drew ?_ | refine below_drewN ?_ _ | refine Below.alloc ?_ (by simp) _ | refine Below.setCell ?_ (by simp) _))⟩
      · by_cases hneg : n < 0
        · simp only [hm1, hm2, hneg, if_false, if_true]
          have e1 : (n == -1) = false := by simp; omega
          have e2 : (n == -2) = false := by simp; omega
          clear hm1 hm2
          go_enter Tryd.func29, Tryd.ntmps29
          go_wp2_with (first
            | (go_at_call 54; refine (rnumber_any (hs.after (by repeat (first | exact Below.refl _ _ | assumption | refine Below.drew ?_ | refine below_drewN ?_ _ | refine Below.alloc ?_ (by simp) _ | refine Below.setCell ?_ (by simp) _))) ha _ HG.out).mono ?_; rintro e w1 ⟨p, rfl, hp, hb⟩; have hbw1 : Below w.heap.size w w1 := Below.trans (by repeat (first | exact Below.refl _ _ | assumption | refine Below.drew ?_ | refine below_drewN ?_ _ | refine Below.alloc ?_ (by simp) _ | refine Below.setCell ?_ (by simp) _)) (hb.mono (by simp)); obtain ⟨hc, hf⟩ := bcell hb; have hz1 : w.heap.size < w1.heap.size := by (have := hb.size; simp at this; omega)))
          refine bodyPost_ret (v := .tuple #[.agg #[.int .i64 0, .string (str [])], .int .i64 0, .int .i64 11]) (by simp [results, Tryd.results29, go_sem, hc, str]) rfl ?_
          exact ⟨0, rfl, AtR.err, (by repeat (first | exact Below.refl _ _ | assumption | refine Below.drew ?_ | refine below_drewN ?_ _ | refine Below.alloc ?_ (by simp) _ | refine Below.setCell ?_ (by simp) _))⟩
        · simp only [hm1, hm2, hneg, if_false]
          obtain ⟨q, hq⟩ : ∃ q, takeN n.toNat r = q := ⟨_, rfl⟩
          have e1 : (n == -1) = false := by simp; omega
          have e2 : (n == -2) = false := by simp; omega
          clear hm1 hm2
          cases q with
          | error e =>
            obtain rfl := takeN_err hq
            have HQ := Lib.hid hq; clear hq
            simp only [HQ.out]
            go_enter Tryd.func29, Tryd.ntmps29
            go_wp2_with (first
              | (go_at_call 54; refine (rnumber_any (hs.after (by repeat (first | exact Below.refl _ _ | assumption | refine Below.drew ?_ | refine below_drewN ?_ _ | refine Below.alloc ?_ (by simp) _ | refine Below.setCell ?_ (by simp) _))) ha _ HG.out).mono ?_; rintro e w1 ⟨p, rfl, hp, hb⟩; have hbw1 : Below w.heap.size w w1 := Below.trans (by repeat (first | exact Below.refl _ _ | assumption | refine Below.drew ?_ | refine below_drewN ?_ _ | refine Below.alloc ?_ (by simp) _ | refine Below.setCell ?_ (by simp) _)) (hb.mono (by simp)); obtain ⟨hc, hf⟩ := bcell hb; have hz1 : w.heap.size < w1.heap.size := by (have := hb.size; simp at this; omega))
              | (go_at_call 59; refine (run_any (hs.after hbw1) hm (by have h1 := hp.le; have h2 := hl.out; omega) _ (by omega) _ (by simpa [hp.drop] using HQ.out)).mono ?_; rintro e w2 ⟨q2, rfl, hq2, rfl⟩))
            refine bodyPost_ret (v := .tuple #[.agg #[.int .i64 0, .string (str [])], .int .i64 0, .int .i64 10]) (by simp [results, Tryd.results29, go_sem, hc, str]) rfl ?_
            exact ⟨0, rfl, AtR.err, (by repeat (first | exact Below.refl _ _ | assumption | refine Below.drew ?_ | refine below_drewN ?_ _ | refine Below.alloc ?_ (by simp) _ | refine Below.setCell ?_ (by simp) _))⟩
          | ok y =>
            obtain ⟨x, r2⟩ := y
            have HQ := Lib.hid hq; clear hq
            simp only [HQ.out]
            go_enter Tryd.func29, Tryd.ntmps29
            go_wp2_with (first
              | (go_at_call 54; refine (rnumber_any (hs.after (by repeat (first | exact Below.refl _ _ | assumption | refine Below.drew ?_ | refine below_drewN ?_ _ | refine Below.alloc ?_ (by simp) _ | refine Below.setCell ?_ (by simp) _))) ha _ HG.out).mono ?_; rintro e w1 ⟨p, rfl, hp, hb⟩; have hbw1 : Below w.heap.size w w1 := Below.trans (by repeat (first | exact Below.refl _ _ | assumption | refine Below.drew ?_ | refine below_drewN ?_ _ | refine Below.alloc ?_ (by simp) _ | refine Below.setCell ?_ (by simp) _)) (hb.mono (by simp)); obtain ⟨hc, hf⟩ := bcell hb; have hz1 : w.heap.size < w1.heap.size := by (have := hb.size; simp at this; omega))
              | (go_at_call 59; refine (run_any (hs.after hbw1) hm (by have h1 := hp.le; have h2 := hl.out; omega) _ (by omega) _ (by simpa [hp.drop] using HQ.out)).mono ?_; rintro e w2 ⟨q2, rfl, hq2, rfl⟩))
            refine bodyPost_ret (v := .tuple #[.agg #[.int .i64 2, .string (str x)], .int .i64 (q2 : Int), .int .i64 0]) (by simp [results, Tryd.results29, go_sem, hc]) rfl ?_
            exact ⟨q2, rfl, AtR.ok hq2.le hq2.drop, (by repeat (first | exact Below.refl _ _ | assumption | refine Below.drew ?_ | refine below_drewN ?_ _ | refine Below.alloc ?_ (by simp) _ | refine Below.setCell ?_ (by simp) _))⟩
end Go.Proofs.Sb

/- Walks over signalboxref02's Inet, GetInet, Consistency, GetConsistency. Conditions: lengths up to 2^47. -/
namespace Go.Proofs.Sb
open Go.RowKit _root_.Sb

theorem gcellr {w w' : World} {row : Option Nat} (hg : w.grownBy w' row) {b o : Nat} {v : Value} (hr : some b ≠ row) (h : w.cell? ⟨b, o, none⟩ = some v) : w'.cell? ⟨b, o, none⟩ = some v :=
  (World.cell?_of_block (hg.block b (World.block_lt_of_cell? w ⟨b, o, none⟩ h) hr)).trans h
theorem bv_one8 {n : Nat} (h : n < 256) : [Value.int .u8 (n : Int)] = bv [UInt8.ofNat n] := by
  simp [bv]
  omega

end Go.Proofs.Sb
