/- Walks over signalboxref02's Inet, GetInet, Consistency, GetConsistency. Conditions: lengths up to 2^47. -/
import Derived.Test.YtfgdohdbabhplaaRefb
import Derived.Test.YtfgdohdbabhplaaArrb
set_option linter.unusedVariables false
set_option linter.unusedSimpArgs false
namespace Go.Proofs.Sb
open Go.RowKit _root_.Sb

theorem rcons_any (x : Int) (w : World) (h0 : 0 ≤ x) (hx : x < 65536) (r : Wr) (hr : cons x.toNat = r) :
    Calls Try.prog 49 #[.int .u16 x] w fun e w' => ∃ A n c, e = .returned (.tuple #[.slice A n c, .int .i64 (werr r)]) ∧ Own w.heap.size w' A n c (wval r) ∧ Below w.heap.size w w' := by
  subst hr
  unfold cons
  by_cases h : 10 < x
  · rw [if_pos (by omega)]
    go_enter Try.func49, Try.ntmps49
    go_wp2_with fail
    go_ret2
    exact ⟨_, _, _, rfl, Own.nil, Below.refl _ _⟩
  · rw [if_neg (by omega)]
    have hw8 : IntKind.u8.wrap x = x := by rw [IntKind.wrap_u8]; omega
    go_enter Try.func49, Try.ntmps49
    go_wp2_with fail
    go_ret2
    refine ⟨_, _, _, rfl, own_lit w _ 2 (enc 2 x.toNat) ?_ (by rw [enc_length]) (by decide) (Nat.le_refl _) (by simp), (by repeat (first | exact Below.refl _ _ | assumption | refine Below.drew ?_ | refine below_drewN ?_ _ | refine Below.alloc ?_ (by simp) _ | refine Below.setCell ?_ (by simp) _))⟩
    obtain ⟨k, rfl⟩ := Int.eq_ofNat_of_zero_le h0
    have hk : k ≤ 10 := by omega
    have : k = 0 ∨ k = 1 ∨ k = 2 ∨ k = 3 ∨ k = 4 ∨ k = 5 ∨ k = 6 ∨ k = 7 ∨ k = 8 ∨ k = 9 ∨ k = 10 := by omega
    rcases this with rfl | rfl | rfl | rfl | rfl | rfl | rfl | rfl | rfl | rfl | rfl <;> rfl

theorem rgetCons_any {S : Nat → Prop} {A : Option Addr} {m c a : Nat} {bs : B} {w : World} (hs : Sl S w A m c bs) (ha : a ≤ m) (r : Res Nat) (hr : getCons (bs.drop a) = r) :
    Calls Try.prog 53 #[.slice A m c, .int .i64 (a : Int)] w fun e w' => ∃ q : Nat, e = .returned (.tuple #[.int .u16 (rval 0 r : Nat), .int .i64 (q : Int), .int .i64 (rerr r)]) ∧ AtR bs q r ∧ w = w' := by
  subst hr
  unfold getCons
  cases h : getN 2 (bs.drop a) with
  | error e =>
    obtain rfl := getN_err h
    have HG := Lib.hid h; clear h
    go_enter Try.func53, Try.ntmps53
    go_wp2_with fail
    refine (rget_any (n := 2) hs ha (by omega) (by omega) _ HG.out).mono ?_
    rintro e w1 ⟨p, rfl, hp, rfl⟩
    go_wp2_with fail
    go_ret3
    exact ⟨0, rfl, AtR.err, rfl⟩
  | ok p =>
    obtain ⟨x, r1⟩ := p
    have hx := (getN_ok h).2.2.2
    simp only [Nat.reducePow] at hx
    have HG := Lib.hid h; clear h
    by_cases h10 : x > 10
    · simp only [h10, if_true]
      have h10' : 10 < x := h10
      clear h10
      go_enter Try.func53, Try.ntmps53
      go_wp2_with fail
      refine (rget_any (n := 2) hs ha (by omega) (by omega) _ HG.out).mono ?_
      rintro e w1 ⟨p, rfl, hp, rfl⟩
      go_wp2_with fail
      go_ret3
      exact ⟨0, rfl, AtR.err, rfl⟩
    · simp only [h10, if_false]
      have h10' : x ≤ 10 := by omega
      clear h10
      go_enter Try.func53, Try.ntmps53
      go_wp2_with fail
      refine (rget_any (n := 2) hs ha (by omega) (by omega) _ HG.out).mono ?_
      rintro e w1 ⟨p, rfl, hp, rfl⟩
      have hpl := hp.le
      have HPD := Lib.hid hp.drop
      clear hp
      go_wp2_with fail
      go_ret3
      exact ⟨p, rfl, AtR.ok hpl HPD.out, rfl⟩

theorem gcellr {w w' : World} {row : Option Nat} (hg : w.grownBy w' row) {b o : Nat} {v : Value} (hr : some b ≠ row) (h : w.cell? ⟨b, o, none⟩ = some v) : w'.cell? ⟨b, o, none⟩ = some v :=
  (World.cell?_of_block (hg.block b (World.block_lt_of_cell? w ⟨b, o, none⟩ h) hr)).trans h
theorem bv_one8 {n : Nat} (h : n < 256) : [Value.int .u8 (n : Int)] = bv [UInt8.ofNat n] := by
  simp [bv]
  omega

set_option maxHeartbeats 1000000 in
set_option maxRecDepth 100000 in
theorem rinet_any {ad : B} {port : Nat} {w : World} (hp : port < 4294967296) (hl : ad.length ≤ 9223372036854775807) (r : Wr) (hr : inet ⟨ad, port⟩ = r) :
    Calls Try.prog 47 #[.agg #[.string (str ad), .int .u32 (port : Int)]] w fun e w' => ∃ A1 n1 c1, e = .returned (.tuple #[.slice A1 n1 c1, .int .i64 (werr r)]) ∧ Own w.heap.size w' A1 n1 c1 (wval r) ∧ Below w.heap.size w w' := by
  subst hr
  unfold inet
  simp only
  by_cases h4 : ad.length = 4 ∨ ad.length = 16
  · simp only [h4, if_true]
    have hwrap : IntKind.u64.wrap (port : Int) = port := by rw [IntKind.wrap_u64]; omega
    rcases h4 with h4 | h4
    · have HL := Lib.hid h4; clear h4
      have hb1 : ((ad.length : Int) != 4) = false := by rw [HL.out]; rfl
      have hb2 : ((ad.length : Int) != 16) = true := by rw [HL.out]; rfl
      have hw8 : IntKind.u8.wrap (ad.length : Int) = ad.length := by rw [IntKind.wrap_u8]; have := HL.out; omega
      have hal : ad.length < 256 := by have := HL.out; omega
      have HV := Lib.hid (bv_one8 hal)
      go_enter Try.func47, Try.ntmps47
      go_wp2_with (first | (at_builtin; refine wpList_apps rfl _ _ rfl w.heap.size _ _ _ [UInt8.ofNat ad.length] rfl (own_lit _ _ 1 [UInt8.ofNat ad.length] HV.out rfl (by decide) (by simp) (by simp)) ad rfl (by simp only [List.length_cons, List.length_nil]; omega) (by simp; omega) ?_; intro A2 n2 c2 w2 hown2 hg2; have hcb : w2.cell? ⟨w.heap.size, 1, none⟩ = some (.int .u32 (port : Int)) := (gcellr hg2 (by simp) (by go_simp)); have hz2 := hg2.size))
      have hbw2 : Below w.heap.size w w2 := Below.grown (by repeat (first | exact Below.refl _ _ | assumption | refine Below.drew ?_ | refine below_drewN ?_ _ | refine Below.alloc ?_ (by first | (simp; done) | omega | (simp; omega)) _ | refine Below.setCell ?_ (by first | (simp; done) | omega | (simp; omega)) _)) hg2 (by simp; omega) (fun k hk => by injection hk with hk; simp at hk; omega)
      have hzw2 := hbw2.size
      have hn2 := hown2.len
      rw [List.length_append] at hn2
      simp only [List.length_cons, List.length_nil] at hn2
      refine (rput_any _ 4 _ (by omega) (by omega) (by omega) (by omega)).mono ?_
      rintro e w3 ⟨A3, m3, c3, rfl, ho3, hb3⟩
      clear hn2
      go_wp2_with (first | (at_builtin; refine wpList_app rfl _ _ rfl w.heap.size _ _ _ ([UInt8.ofNat ad.length] ++ ad) rfl (hown2.after hb3) _ _ _ _ (enc 4 port) rfl (by exact ho3.sl) (by rw [List.length_append, enc_length]; simp only [List.length_cons, List.length_nil]; omega) (Nat.le_trans hzw2 hb3.size) ?_; intro A4 n4 c4 w4 hown4 hg4))
      go_ret2
      exact ⟨_, _, _, rfl, hown4, Below.grown (Below.trans hbw2 (hb3.mono hzw2)) hg4 (Nat.le_trans hzw2 hb3.size) fun k hk => (hown2.block k hk).1⟩
    · have HL := Lib.hid h4; clear h4
      have hb1 : ((ad.length : Int) != 4) = true := by rw [HL.out]; rfl
      have hb2 : ((ad.length : Int) != 16) = false := by rw [HL.out]; rfl
      have hw8 : IntKind.u8.wrap (ad.length : Int) = ad.length := by rw [IntKind.wrap_u8]; have := HL.out; omega
      have hal : ad.length < 256 := by have := HL.out; omega
      have HV := Lib.hid (bv_one8 hal)
      go_enter Try.func47, Try.ntmps47
      go_wp2_with (first | (at_builtin; refine wpList_apps rfl _ _ rfl w.heap.size _ _ _ [UInt8.ofNat ad.length] rfl (own_lit _ _ 1 [UInt8.ofNat ad.length] HV.out rfl (by decide) (by simp) (by simp)) ad rfl (by simp only [List.length_cons, List.length_nil]; omega) (by simp; omega) ?_; intro A2 n2 c2 w2 hown2 hg2; have hcb : w2.cell? ⟨w.heap.size, 1, none⟩ = some (.int .u32 (port : Int)) := (gcellr hg2 (by simp) (by go_simp)); have hz2 := hg2.size))
      have hbw2 : Below w.heap.size w w2 := Below.grown (by repeat (first | exact Below.refl _ _ | assumption | refine Below.drew ?_ | refine below_drewN ?_ _ | refine Below.alloc ?_ (by first | (simp; done) | omega | (simp; omega)) _ | refine Below.setCell ?_ (by first | (simp; done) | omega | (simp; omega)) _)) hg2 (by simp; omega) (fun k hk => by injection hk with hk; simp at hk; omega)
      have hzw2 := hbw2.size
      have hn2 := hown2.len
      rw [List.length_append] at hn2
      simp only [List.length_cons, List.length_nil] at hn2
      refine (rput_any _ 4 _ (by omega) (by omega) (by omega) (by omega)).mono ?_
      rintro e w3 ⟨A3, m3, c3, rfl, ho3, hb3⟩
      clear hn2
      go_wp2_with (first | (at_builtin; refine wpList_app rfl _ _ rfl w.heap.size _ _ _ ([UInt8.ofNat ad.length] ++ ad) rfl (hown2.after hb3) _ _ _ _ (enc 4 port) rfl (by exact ho3.sl) (by rw [List.length_append, enc_length]; simp only [List.length_cons, List.length_nil]; omega) (Nat.le_trans hzw2 hb3.size) ?_; intro A4 n4 c4 w4 hown4 hg4))
      go_ret2
      exact ⟨_, _, _, rfl, hown4, Below.grown (Below.trans hbw2 (hb3.mono hzw2)) hg4 (Nat.le_trans hzw2 hb3.size) fun k hk => (hown2.block k hk).1⟩
  · simp only [h4, if_false]
    have hb1 : ((ad.length : Int) != 4) = true := by simp; omega
    have hb2 : ((ad.length : Int) != 16) = true := by simp; omega
    clear h4
    go_enter Try.func47, Try.ntmps47
    go_wp2_with fail
    go_ret2
    exact ⟨_, _, _, rfl, Own.nil, (by repeat (first | exact Below.refl _ _ | assumption | refine Below.drew ?_ | refine below_drewN ?_ _ | refine Below.alloc ?_ (by simp) _ | refine Below.setCell ?_ (by simp) _))⟩

set_option maxHeartbeats 1000000 in
set_option maxRecDepth 100000 in
theorem rgetInet_any {S : Nat → Prop} {A : Option Addr} {m c a : Nat} {bs : B} {w : World} (hs : Sl S w A m c bs) (hm : m ≤ 140737488355328) (ha : a ≤ m) (r : Res Adr) (hr : getInet (bs.drop a) = r) :
    Calls Try.prog 51 #[.slice A m c, .int .i64 (a : Int)] w fun e w' => ∃ q : Nat, e = .returned (.tuple #[.agg #[.string (str (rval Adr.none r).addr), .int .u32 ((rval Adr.none r).port : Nat)], .int .i64 (q : Int), .int .i64 (rerr r)]) ∧ AtR bs q r ∧ Below w.heap.size w w' := by
  have hl := Lib.hid hs.len
  subst hr
  unfold getInet
  cases h : getN 1 (bs.drop a) with
  | error e =>
    obtain rfl := getN_err h
    have HG := Lib.hid h; clear h
    go_enter Try.func51, Try.ntmps51
    go_wp2_with fail
    refine (rget_any (n := 1) (hs.after (by repeat (first | exact Below.refl _ _ | assumption | refine Below.drew ?_ | refine below_drewN ?_ _ | refine Below.alloc ?_ (by simp) _ | refine Below.setCell ?_ (by simp) _))) ha (by omega) (by omega) _ HG.out).mono ?_
    rintro e w1 ⟨p, rfl, hp, rfl⟩
    go_wp2_with fail
    refine bodyPost_ret (v := .tuple #[.agg #[.string (str []), .int .u32 0], .int .i64 0, .int .i64 10]) (by simp [results, Try.results51, go_sem, str]) rfl ?_
    exact ⟨0, rfl, AtR.err, (by repeat (first | exact Below.refl _ _ | assumption | refine Below.drew ?_ | refine below_drewN ?_ _ | refine Below.alloc ?_ (by simp) _ | refine Below.setCell ?_ (by simp) _))⟩
  | ok p =>
    obtain ⟨x, r1⟩ := p
    have hx := (getN_ok h).2.2.2
    simp only [Nat.reducePow] at hx
    have HG := Lib.hid h; clear h
    by_cases h4 : x = 4 ∨ x = 16
    · simp only [h4, if_true]
      have H4 := Lib.hid h4
      cases h2 : takeN x r1 with
      | error e =>
        obtain rfl := takeN_err h2
        have HT := Lib.hid h2; clear h2
        clear H4
        rcases h4 with rfl | rfl
        all_goals
          go_enter Try.func51, Try.ntmps51
          go_wp2_with fail
          refine (rget_any (n := 1) (hs.after (by repeat (first | exact Below.refl _ _ | assumption | refine Below.drew ?_ | refine below_drewN ?_ _ | refine Below.alloc ?_ (by simp) _ | refine Below.setCell ?_ (by simp) _))) ha (by omega) (by omega) _ HG.out).mono ?_
          rintro e w1 ⟨p, rfl, hp, rfl⟩
          have hpl := hp.le
          have HPD := Lib.hid hp.drop
          clear hp
          go_wp2_with fail
          refine (run_any (hs.after (by repeat (first | exact Below.refl _ _ | assumption | refine Below.drew ?_ | refine below_drewN ?_ _ | refine Below.alloc ?_ (by simp) _ | refine Below.setCell ?_ (by simp) _))) hm (by have := hl.out; omega) _ (by omega) (.error 10) (by rw [HPD.out]; exact HT.out)).mono ?_
          rintro e w2 ⟨q2, rfl, hq2, rfl⟩
          go_wp2_with fail
          refine bodyPost_ret (v := .tuple #[.agg #[.string (str []), .int .u32 0], .int .i64 0, .int .i64 10]) (by simp [results, Try.results51, go_sem, str]) rfl ?_
          exact ⟨0, rfl, AtR.err, (by repeat (first | exact Below.refl _ _ | assumption | refine Below.drew ?_ | refine below_drewN ?_ _ | refine Below.alloc ?_ (by simp) _ | refine Below.setCell ?_ (by simp) _))⟩
      | ok p2 =>
        obtain ⟨y, r2⟩ := p2
        have HT := Lib.hid h2; clear h2
        simp only
        cases h3 : getN 4 r2 with
        | error e =>
          obtain rfl := getN_err h3
          have HP := Lib.hid h3; clear h3
          clear H4
          rcases h4 with rfl | rfl
          all_goals
            go_enter Try.func51, Try.ntmps51
            go_wp2_with fail
            refine (rget_any (n := 1) (hs.after (by repeat (first | exact Below.refl _ _ | assumption | refine Below.drew ?_ | refine below_drewN ?_ _ | refine Below.alloc ?_ (by simp) _ | refine Below.setCell ?_ (by simp) _))) ha (by omega) (by omega) _ HG.out).mono ?_
            rintro e w1 ⟨p, rfl, hp, rfl⟩
            have hpl := hp.le
            have HPD := Lib.hid hp.drop
            clear hp
            go_wp2_with fail
            refine (run_any (hs.after (by repeat (first | exact Below.refl _ _ | assumption | refine Below.drew ?_ | refine below_drewN ?_ _ | refine Below.alloc ?_ (by simp) _ | refine Below.setCell ?_ (by simp) _))) hm (by have := hl.out; omega) _ (by omega) (.ok (y, r2)) (by rw [HPD.out]; exact HT.out)).mono ?_
            rintro e w2 ⟨q2, rfl, hq2, rfl⟩
            have hql := hq2.le
            have HQD := Lib.hid hq2.drop
            clear hq2
            go_wp2_with fail
            refine (rget_any (n := 4) (hs.after (by repeat (first | exact Below.refl _ _ | assumption | refine Below.drew ?_ | refine below_drewN ?_ _ | refine Below.alloc ?_ (by simp) _ | refine Below.setCell ?_ (by simp) _))) (by have := hl.out; omega) (by omega) (by omega) (.error 10) (by rw [HQD.out]; exact HP.out)).mono ?_
            rintro e w3 ⟨q3, rfl, hq3, rfl⟩
            go_wp2_with fail
            refine bodyPost_ret (v := .tuple #[.agg #[.string (str []), .int .u32 0], .int .i64 0, .int .i64 10]) (by simp [results, Try.results51, go_sem, str]) rfl ?_
            exact ⟨0, rfl, AtR.err, (by repeat (first | exact Below.refl _ _ | assumption | refine Below.drew ?_ | refine below_drewN ?_ _ | refine Below.alloc ?_ (by simp) _ | refine Below.setCell ?_ (by simp) _))⟩
        | ok p3 =>
          obtain ⟨z, r3⟩ := p3
          have hz := (getN_ok h3).2.2.2
          simp only [Nat.reducePow] at hz
          have HP := Lib.hid h3; clear h3
          clear H4
          rcases h4 with rfl | rfl
          all_goals
            go_enter Try.func51, Try.ntmps51
            go_wp2_with fail
            refine (rget_any (n := 1) (hs.after (by repeat (first | exact Below.refl _ _ | assumption | refine Below.drew ?_ | refine below_drewN ?_ _ | refine Below.alloc ?_ (by simp) _ | refine Below.setCell ?_ (by simp) _))) ha (by omega) (by omega) _ HG.out).mono ?_
            rintro e w1 ⟨p, rfl, hp, rfl⟩
            have hpl := hp.le
            have HPD := Lib.hid hp.drop
            clear hp
            go_wp2_with fail
            refine (run_any (hs.after (by repeat (first | exact Below.refl _ _ | assumption | refine Below.drew ?_ | refine below_drewN ?_ _ | refine Below.alloc ?_ (by simp) _ | refine Below.setCell ?_ (by simp) _))) hm (by have := hl.out; omega) _ (by omega) (.ok (y, r2)) (by rw [HPD.out]; exact HT.out)).mono ?_
            rintro e w2 ⟨q2, rfl, hq2, rfl⟩
            have hql := hq2.le
            have HQD := Lib.hid hq2.drop
            clear hq2
            go_wp2_with fail
            refine (rget_any (n := 4) (hs.after (by repeat (first | exact Below.refl _ _ | assumption | refine Below.drew ?_ | refine below_drewN ?_ _ | refine Below.alloc ?_ (by simp) _ | refine Below.setCell ?_ (by simp) _))) (by have := hl.out; omega) (by omega) (by omega) (.ok (z, r3)) (by rw [HQD.out]; exact HP.out)).mono ?_
            rintro e w3 ⟨q3, rfl, hq3, rfl⟩
            have hrl := hq3.le
            have HRD := Lib.hid hq3.drop
            clear hq3
            simp only [rval_ok, rerr_ok]
            go_wp2_with fail
            refine bodyPost_ret (v := .tuple #[.agg #[.string (str y), .int .u32 (z : Int)], .int .i64 (q3 : Int), .int .i64 0]) (by simp [results, Try.results51, go_sem]) rfl ?_
            exact ⟨q3, rfl, AtR.ok hrl HRD.out, (by repeat (first | exact Below.refl _ _ | assumption | refine Below.drew ?_ | refine below_drewN ?_ _ | refine Below.alloc ?_ (by simp) _ | refine Below.setCell ?_ (by simp) _))⟩
    · simp only [h4, if_false]
      have hb1 : ((x : Int) != 4) = true := by simp; omega
      have hb2 : ((x : Int) != 16) = true := by simp; omega
      clear h4
      go_enter Try.func51, Try.ntmps51
      go_wp2_with fail
      refine (rget_any (n := 1) (hs.after (by repeat (first | exact Below.refl _ _ | assumption | refine Below.drew ?_ | refine below_drewN ?_ _ | refine Below.alloc ?_ (by simp) _ | refine Below.setCell ?_ (by simp) _))) ha (by omega) (by omega) _ HG.out).mono ?_
      rintro e w1 ⟨p, rfl, hp, rfl⟩
      go_wp2_with fail
      refine bodyPost_ret (v := .tuple #[.agg #[.string (str []), .int .u32 0], .int .i64 0, .int .i64 11]) (by simp [results, Try.results51, go_sem, str]) rfl ?_
      exact ⟨0, rfl, AtR.err, (by repeat (first | exact Below.refl _ _ | assumption | refine Below.drew ?_ | refine below_drewN ?_ _ | refine Below.alloc ?_ (by simp) _ | refine Below.setCell ?_ (by simp) _))⟩
end Go.Proofs.Sb
