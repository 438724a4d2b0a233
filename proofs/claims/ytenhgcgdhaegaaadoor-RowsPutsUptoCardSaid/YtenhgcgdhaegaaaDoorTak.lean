/- Walk over rows.reader's columns. Conditions: lengths up to 2^47. (written by gen_tak.py) -/
import Derived.Test.YtenhgcgdhaegaaaDoorTag
import Derived.Test.YtenhgcgdhaegaaaDoorRole
import Derived.Deep.DeepCutAuto
import Derived.Deep.CutBlock
import Derived.Deep.QuietTactic
import Derived.BigQuiet
set_option linter.unusedVariables false
set_option linter.unusedSimpArgs false
namespace Go.Proofs.Sb
open Go.RowKit _root_.Sb
theorem bit_and8 : ∀ (f : Fin 8), (bits .and .i64 ((f : Nat) : Int) 1 != 0) = bitB f 0 ∧ (bits .and .i64 ((f : Nat) : Int) 2 != 0) = bitB f 1 ∧ (bits .and .i64 ((f : Nat) : Int) 4 != 0) = bitB f 2 := by decide +kernel
theorem bit_flags {f : Int} {s s2 : Wr} {c : B} (h2 : s2 = mustR (flagsT f) 21 s) (hc : s2 = .ok c) : (bits .and .i64 f 1 != 0) = bitB f.toNat 0 ∧ (bits .and .i64 f 2 != 0) = bitB f.toNat 1 ∧ (bits .and .i64 f 4 != 0) = bitB f.toNat 2 := by
  have hf : flagsT f = true := by
    cases h : flagsT f with
    | true => rfl
    | false => rw [h] at h2; rw [h2] at hc; cases s <;> cases hc
  have hr := of_decide_eq_true hf
  obtain ⟨k, rfl⟩ : ∃ k : Nat, f = k := ⟨f.toNat, by omega⟩
  exact bit_and8 ⟨k, by omega⟩
/-- what columns hands back -/
structure TabR (w w' : World) (a c d : Pl3) (t : Tb) (l : List Nat) : Prop where
  pl : Arr 1 u16P (fun b => w.heap.size ≤ b) w' a.1 a.2.1 a.2.2 l
  cl : Arr 8 (colP 9223372036854775807 20 (fun b => w.heap.size ≤ b) w') (fun b => w.heap.size ≤ b) w' c.1 c.2.1 c.2.2 t.cols
  st : Sl (fun b => w.heap.size ≤ b) w' d.1 d.2.1 d.2.2 t.state.bytes
  n0 : 0 ≤ t.count
  n1 : t.count ≤ 4096
  rs : t.rows = []
def tabV (t : Tb) (c d e : Pl3) : List Value := [.int .i64 t.count, .slice c.1 c.2.1 c.2.2, .bool t.more, .int .i64 t.state.kind, .slice d.1 d.2.1 d.2.2, .slice e.1 e.2.1 e.2.2]
def ColsPost (S : Nat → Prop) (w : World) (X : Nat) (s : Wr) (keys : Bool) (e : Ending) (w' : World) : Prop := ∃ (t : Tb) (l : List Nat) (a c d : Pl3), e = .returned (.tuple #[.agg (tabV t c d Pl3.none).toArray, .slice a.1 a.2.1 a.2.2]) ∧ TabR w w' a c d t l ∧ RdAt S w' X (gR (colsR keys) s) ∧ w.grownBy w' (some X) ∧ Tie (colsR keys) s (t, l)
set_option maxHeartbeats 8000000 in
set_option maxRecDepth 100000 in
theorem columns_any {S : Nat → Prop} {w : World} {X : Nat} {s : Wr} {keys : Bool} (h : RdAt S w X s) (hS : ∀ b, S b → b ≠ X) (hpl : Pl w) :
    Calls Tryd.prog 21 #[.pointer (some ⟨X, 0, none⟩), .bool keys] w fun e w' => ColsPost S w X s keys e w' := by
  have hlt := h.lt
  have HPL := Lib.hid hpl
  have HX0 := Lib.hid (h.ne0 hpl); clear hpl
  have HS := Lib.hid hS
  have HS9 := Lib.hid (fun b (h : S b ∧ b < w.heap.size) => hS b h.1)
  have I0' := CI.start (t1 := 70) (t2 := 29) (t3 := 29) (vY := []) h hS (o1 := .cells #[.pointer (some ⟨X, 0, none⟩)] 70) (o2 := .cells #[.int .i64 0, .slice none 0 0, .bool false, .int .i64 0, .slice none 0 0, .slice none 0 0] 29) (o3 := .cells #[.int .i64 0, .slice none 0 0, .bool false, .int .i64 0, .slice none 0 0, .slice none 0 0] 29) rfl rfl rfl
  obtain ⟨ρ0, i0⟩ := I0'
  have I0 := Lib.hid i0
  clear i0 h hS
  obtain ⟨f, hf⟩ : ∃ f, f = gV 0 getNum s := ⟨_, rfl⟩
  obtain ⟨s2, hs2⟩ : ∃ s2, s2 = mustR (flagsT f) 21 (gR getNum s) := ⟨_, rfl⟩
  obtain ⟨n, hn⟩ : ∃ n, n = gV 0 getCnt s2 := ⟨_, rfl⟩
  obtain ⟨s3, hs3⟩ : ∃ s3, s3 = gR getCnt s2 := ⟨_, rfl⟩
  obtain ⟨s4, hs4⟩ : ∃ s4, s4 = gR (optR keys [] (placesR n)) s3 := ⟨_, rfl⟩
  obtain ⟨a1, ha1⟩ : ∃ a1, a1 = bits .and .i64 f 1 := ⟨_, rfl⟩
  obtain ⟨a2, ha2⟩ : ∃ a2, a2 = bits .and .i64 f 2 := ⟨_, rfl⟩
  obtain ⟨a4, ha4⟩ : ∃ a4, a4 = bits .and .i64 f 4 := ⟨_, rfl⟩
  obtain ⟨b0, hb0⟩ : ∃ b0, b0 = (a1 != 0) := ⟨_, rfl⟩
  obtain ⟨b1, hb1⟩ : ∃ b1, b1 = (a2 != 0) := ⟨_, rfl⟩
  obtain ⟨b2, hb2⟩ : ∃ b2, b2 = (a4 != 0) := ⟨_, rfl⟩
  have hrng : -2147483648 ≤ f ∧ f < 2147483648 := hf ▸ num_rng s
  have hn4 : n ≤ 4096 := hn ▸ cnt_le s2
  have HBT : Hid (∀ c, s2 = .ok c → b0 = bitB f.toNat 0 ∧ b1 = bitB f.toNat 1 ∧ b2 = bitB f.toNat 2) := by
    intro c hc
    have := bit_flags hs2 hc
    rw [← ha1, ← ha2, ← ha4] at this
    subst hb0 hb1 hb2
    exact this
  have HF := Lib.hid hf; clear hf
  have HS2 := Lib.hid hs2; clear hs2
  have HN := Lib.hid hn; clear hn
  have HS3 := Lib.hid hs3; clear hs3
  have HS4 := Lib.hid hs4; clear hs4
  have HA1 := Lib.hid ha1; clear ha1
  have HA2 := Lib.hid ha2; clear ha2
  have HA4 := Lib.hid ha4; clear ha4
  have HB0 := Lib.hid hb0; clear hb0
  have HB1 := Lib.hid hb1; clear hb1
  have HB2 := Lib.hid hb2; clear hb2
  go_enter Tryd.func21, Tryd.ntmps21
  go_wp2_with fail
  refine (tnum_any (k := 4) I0.out.rd HS9.out (.inr rfl)).mono ?_
  rw [getS4, ← HF.out]
  rintro e w1 ⟨rfl, ha1, hg1⟩
  obtain ⟨ρ1, hx1, i1⟩ := I0.out.callE ha1 hg1
  have I1 := Lib.hid i1
  clear ha1 hg1 hx1 i1
  have y1 := I1.out.cell
  have yl1 := I1.out.y.lt
  have tl1 := I1.out.t.lt
  have rl1 := I1.out.r.lt
  go_upto_region 4 with fail
  go_cut [] (fun wx => ∃ ρ, Hid (CI S w X w.heap.size (w.heap.size + 1) (w.heap.size + 1 + 1) s2 zT Pl3.none [] Pl3.none [] Pl3.none [] ρ wx))
  case first =>
    by_cases h0 : 0 ≤ f
    · by_cases h7 : f ≤ 7
      · have d0 : decide (0 ≤ f) = true := decide_eq_true h0
        have d7 : decide (f ≤ 7) = true := decide_eq_true h7
        go_wp2_with fail
        refine (rmust_any (is := true) (er := 21) I1.out.rd HS9.out (by decide)).mono ?_
        rintro e w2 ⟨rfl, ha2, hg2⟩
        rw [show true = flagsT f from by unfold flagsT; exact (decide_eq_true (by omega)).symm, ← HS2.out] at ha2
        go_wp2_with fail
        go_meet
        exact ⟨_, I1.out.call ha2 hg2 rfl⟩
      · have d0 : decide (0 ≤ f) = true := decide_eq_true h0
        have d7 : decide (f ≤ 7) = false := decide_eq_false h7
        go_wp2_with fail
        refine (rmust_any (is := false) (er := 21) I1.out.rd HS9.out (by decide)).mono ?_
        rintro e w2 ⟨rfl, ha2, hg2⟩
        rw [show false = flagsT f from by unfold flagsT; exact (decide_eq_false (by omega)).symm, ← HS2.out] at ha2
        go_wp2_with fail
        go_meet
        exact ⟨_, I1.out.call ha2 hg2 rfl⟩
    · have d0 : decide (0 ≤ f) = false := decide_eq_false h0
      go_wp2_with fail
      refine (rmust_any (is := false) (er := 21) I1.out.rd HS9.out (by decide)).mono ?_
      rintro e w2 ⟨rfl, ha2, hg2⟩
      rw [show false = flagsT f from by unfold flagsT; exact (decide_eq_false (by omega)).symm, ← HS2.out] at ha2
      go_wp2_with fail
      go_meet
      exact ⟨_, I1.out.call ha2 hg2 rfl⟩
  case rest =>
    obtain ⟨ρ2, I2⟩ := hcut
    obtain ⟨w2, hwo⟩ : ∃ wo, wo = wc := ⟨_, rfl⟩
    subst hwo
    clear y1 yl1 tl1 rl1 I1
    have y2 := I2.out.cell
    have yl2 := I2.out.y.lt
    have tl2 := I2.out.t.lt
    have rl2 := I2.out.r.lt
    go_wp2_with fail
    refine (tcnt_any I2.out.rd HS9.out).mono ?_
    rw [← HN.out, ← HS3.out]
    rintro e w3 ⟨rfl, ha3, hg3⟩
    obtain ⟨ρ3, hx3, i3⟩ := I2.out.callE ha3 hg3
    have I3 := Lib.hid i3
    clear ha3 hg3 hx3 i3
    clear y2 yl2 tl2 rl2
    have y3 := I3.out.cell
    have yl3 := I3.out.y.lt
    have tl3 := I3.out.t.lt
    have rl3 := I3.out.r.lt
    have t0 := I3.out.t.c 0 _ rfl
    have kt0 := I3.out.t.fr 0
    have I4 := Lib.hid (I3.out.put HS.out 0 (.int .i64 (n : Int)) (by decide))
    simp only [zT, List.set_cons_zero, List.set_cons_succ] at I4
    go_upto_if 27 with fail
    clear t0 kt0
    go_cut [7, 9] (fun pl wr wx => ∃ ρ a l, pl = .slice a.1 a.2.1 a.2.2 ∧ Hid (CI S w X w.heap.size (w.heap.size + 1) (w.heap.size + 1 + 1) s4 [.int .i64 (n : Int), .slice none 0 0, .bool false, .int .i64 0, .slice none 0 0, .slice none 0 0] a l Pl3.none [] Pl3.none [] ρ wx) ∧ Hid (Tie (optR keys [] (placesR n)) s3 l))
    case first =>
      cases keys with
      | false =>
        rw [(opt_false_R s3).1] at HS4
        go_wp2_with fail
        go_meet
        exact ⟨_, Pl3.none, [], rfl, HS4.out ▸ I4.out, (opt_false_R s3).2⟩
      | true =>
        rw [opt_true] at HS4
        go_wp2_with fail
        refine (tcnt_any I4.out.rd HS9.out).mono ?_
        obtain ⟨m, hm⟩ : ∃ m, m = gV 0 getCnt s3 := ⟨_, rfl⟩
        obtain ⟨s5, hs5⟩ : ∃ s5, s5 = gR getCnt s3 := ⟨_, rfl⟩
        have hm4 : m ≤ 4096 := hm ▸ cnt_le s3
        rw [← hm, ← hs5]
        have HM := Lib.hid hm; clear hm
        have HS5 := Lib.hid hs5; clear hs5
        rintro e w5 ⟨rfl, ha5, hg5⟩
        obtain ⟨ρ5, hx5, i5⟩ := I4.out.callE ha5 hg5
        have I5 := Lib.hid i5
        clear ha5 hg5 hx5 i5
        clear y3 yl3 tl3 rl3 I4 I3
        have y5 := I5.out.cell
        go_wp2_with fail
        go_loopw [7, 30] (fun pl i wr => ∃ ρ k l st a, k ≤ m ∧ i = .int .i64 (k : Nat) ∧ pl = .slice a.1 a.2.1 a.2.2 ∧ Hid (CI S w X w.heap.size (w.heap.size + 1) (w.heap.size + 1 + 1) st [.int .i64 (n : Int), .slice none 0 0, .bool false, .int .i64 0, .slice none 0 0, .slice none 0 0] a l Pl3.none [] Pl3.none [] ρ wr) ∧ Hid (l.length = k) ∧ Hid (PrgG (getN 2) m s5 k l st)) (fun _ i _ => m - (intOf i).toNat)
        case atStart => exact ⟨_, 0, [], s5, Pl3.none, by omega, rfl, rfl, I5, rfl, PrgG.zero _ _ _⟩
        case round =>
          clear y5 I5
          obtain ⟨ρ, k, l, st, a, hk, rfl, rfl, I6, HL, HP⟩ := hrel
          have y6 := I6.out.cell
          have yl6 := I6.out.y.lt
          by_cases hlt2 : k < m
          · go_wp2_with fail
            refine (tnum_any (k := 2) I6.out.rd HS9.out (.inl rfl)).mono ?_
            rw [(s2_R st).1, (s2_R st).2]
            obtain ⟨x, hx⟩ : ∃ x, x = gV 0 (getN 2) st := ⟨_, rfl⟩
            have hx16 : x < 65536 := hx ▸ n2_lt st
            rw [← hx]
            have HX := Lib.hid hx; clear hx
            have HW := sgn2_mod hx16
            rintro e w7 ⟨rfl, ha7, hg7⟩
            obtain ⟨ρ7, hx7, i7⟩ := I6.out.callE ha7 hg7
            have I7 := Lib.hid i7
            clear hx7 i7 ha7 hg7
            generalize sgn 2 x = sx at *
            have hw : IntKind.u16.wrap sx = (x : Int) := by first | exact HW | (simp [IntKind.wrap]; exact HW)
            clear HW
            have hal : a.2.1 ≤ 4096 := by have := I7.out.pl.len (by decide); have := HL.out; omega
            go_wp2_with (first | (at_builtin; go_loud (refine wpList_appX rfl tyU16 _ _ rfl (ρ := ρ7) (r := 4) _ _ _ l rfl (I7.out.pl.after ((Below.refl _ _).alloc (Nat.le_refl _) _)) _ _ _ _ [x] rfl (arr_lit (P := u16P) _ #[.int .u16 (x : Int)] x rfl ⟨rfl, hx16⟩ (by simp)) u16P_one (fun _ _ _ h => h) (by omega) (by unfold maxLen; omega) ?_); intro A8 m8 d8 w8 ρ8 hx8 hown8 hf8))
            have I8 := Lib.hid ((I7.out.after ((Below.refl _ _).alloc (Nat.le_refl _) _)).app4 HS.out (a' := (A8, m8, d8)) hf8 hx8 hown8)
            clear hx8 hown8 hf8
            go_wp2_with fail
            refine ⟨⟨ρ8, k + 1, l ++ [x], _, (A8, m8, d8), by omega, by go_num, rfl, I8, by rw [List.length_append, HL.out]; rfl, HP.out.any hlt2 x (HX.out ▸ Tie.gV)⟩, by simp [intOf]; omega⟩
          · obtain rfl : k = m := by omega
            obtain ⟨hst, hti⟩ := HP.out.fin (.inl rfl)
            have HPL2 : Hid (gR (placesR n) s3 = mustR (!(l.any fun k => decide (n ≤ k))) 11 st ∧ Tie (placesR n) s3 l) := by
              rw [HM.out, HS5.out] at hst hti
              have := places_R n s3 hti
              rw [← hst] at this
              exact this
            clear hst hti
            go_upto_region 12 with fail
            have hdr : Below wr.heap.size wr wr.drew := (Below.refl _ _).drew
            have I7 := Lib.hid (I6.out.after hdr)
            have hYX : ¬ w.heap.size = X := by omega
            have fy := Fr.each (T := fun b => b = X) hYX (kcell hdr y6)
            have t7 := I7.out.t.c 0 _ rfl
            clear hdr
            refine regf_start (fun b => b = X) (by kernel_rfl) ?_
            (refine regf_take 0 (v := ?_) (by rfl) (by kernel_rfl) (by kernel_rfl) (by kernel_rfl) (by exact fun _ _ _ h => h) (by rfl) ?_ ?_; rotate_left; focus (intro w hSw; go_simp; try with_reducible rfl))
            simp only [Act.put, List.setIfInBounds_toArray, List.set_cons_zero, List.set_cons_succ]
            (refine regf_take 1 (v := ?_) (by rfl) (by kernel_rfl) (by kernel_rfl) (by kernel_rfl) (by exact fun _ _ _ h => h) (by rfl) ?_ ?_; rotate_left; focus (intro w hSw; go_simp; try with_reducible rfl))
            simp only [Act.put, List.setIfInBounds_toArray, List.set_cons_zero, List.set_cons_succ]
            (refine regf_take 2 (v := ?_) (by rfl) (by kernel_rfl) (by kernel_rfl) (by kernel_rfl) (by exact fun _ _ _ h => h) (by rfl) ?_ ?_; rotate_left; focus (intro w hSw; go_simp; try with_reducible rfl))
            simp only [Act.put, List.setIfInBounds_toArray, List.set_cons_zero, List.set_cons_succ]
            refine regf_call 3 (by kernel_rfl) (by rfl) (fun K hK => ?_)
            go_simp
            go_at_call 46; refine (con_u16 (l := l) t7 (I7.out.pl.arr (by decide))).mono ?_; rintro e w8 ⟨rfl, hb8⟩; have I8 := Lib.hid (I7.out.after hb8)
            refine hK.out _ _ ((Fr.of_below hb8)) ?_
            clear hK K
            try simp only [Act.put, List.setIfInBounds_toArray, List.set_cons_zero, List.set_cons_succ]
            (refine regf_take 4 (v := ?_) (by rfl) (by kernel_rfl) (by kernel_rfl) (by kernel_rfl) (by exact fun _ _ _ h => h) (by rfl) ?_ ?_; rotate_left; focus (intro w hSw; go_simp; try with_reducible rfl))
            simp only [Act.put, List.setIfInBounds_toArray, List.set_cons_zero, List.set_cons_succ]
            refine regf_call 5 (by kernel_rfl) (by rfl) (fun K hK => ?_)
            go_simp
            go_at_call 25; refine (rmust_any (is := !(l.any fun k => decide (n ≤ k))) (er := 11) I8.out.rd HS9.out (by decide)).mono ?_; rintro e w9 ⟨rfl, ha9, hg9⟩
            refine hK.out _ _ ((Fr.of_one hg9 rfl)) ?_
            clear hK K
            try simp only [Act.put, List.setIfInBounds_toArray, List.set_cons_zero, List.set_cons_succ]
            refine wpAnyH_done (by kernel_rfl) ?_ _
            rw [← HPL2.out.1, ← HS4.out] at ha9
            go_wp2_with fail
            go_meet
            exact ⟨_, a, l, rfl, I8.out.call ha9 hg9 rfl, HPL2.out.2⟩
    case rest =>
      obtain ⟨ρ4, a, l, rfl, I4, HTL⟩ := hcut
      obtain ⟨w4, hwo⟩ : ∃ wo, wo = wc := ⟨_, rfl⟩
      subst hwo
      clear y3 yl3 tl3 rl3 I3
      have y4 := I4.out.cell
      have yl4 := I4.out.y.lt
      have tl4 := I4.out.t.lt
      have rl4 := I4.out.r.lt
      have t2 := I4.out.t.c 2 _ rfl
      have kt2 := I4.out.t.fr 2
      have ha2 : bits .and .i64 f 2 = a2 := HA2.out.symm
      have hb1 : (a2 != 0) = b1 := HB1.out.symm
      have I5 := Lib.hid (I4.out.put HS.out 2 (.bool b1) (by simp))
      simp only [List.set_cons_zero, List.set_cons_succ] at I5
      go_upto_if 51 with fail
      clear t2 kt2 ha2 hb1
      obtain ⟨s5, hs5⟩ : ∃ s5, s5 = gR (optR b1 Val.none getValue) s4 := ⟨_, rfl⟩
      have HS5 := Lib.hid hs5; clear hs5
      go_cut [] (fun wx => ∃ ρ d v, Hid (CI S w X w.heap.size (w.heap.size + 1) (w.heap.size + 1 + 1) s5 [.int .i64 (n : Int), .slice Pl3.none.1 Pl3.none.2.1 Pl3.none.2.2, .bool b1, .int .i64 v.kind, .slice d.1 d.2.1 d.2.2, .slice none 0 0] a l Pl3.none [] d v.bytes ρ wx) ∧ Hid (Tie (optR b1 Val.none getValue) s4 v))
      case first =>
        cases b1 with
        | false =>
          rw [(opt_false_R s4).1] at HS5
          go_wp2_with fail
          go_meet
          exact ⟨_, Pl3.none, Val.none, HS5.out ▸ I5.out, (opt_false_R s4).2⟩
        | true =>
          rw [opt_true] at HS5
          go_wp2_with fail
          refine (rdx_value I5.out.rd HS9.out).mono ?_
          rintro e w6 ⟨⟨D1, d1, e1, rfl, hv6⟩, ha6, hg6⟩
          rw [← HS5.out] at ha6
          obtain ⟨v, hv⟩ : ∃ v, v = gV Val.none getValue s4 := ⟨_, rfl⟩
          rw [← hv] at hv6 ⊢
          have HV := Lib.hid hv; clear hv
          obtain ⟨ρ6, hx6, i6⟩ := I5.out.callE ha6 hg6
          have i6' := i6.sta (d' := (D1, d1, e1)) (hv6.mono fun b hb _ => by rw [hx6]; exact xt_ge hb)
          have I6 := Lib.hid i6'
          clear hv6 ha6 hg6 i6 i6' hx6
          have t3 := I6.out.t.c 3 _ rfl
          have t4 := I6.out.t.c 4 _ rfl
          have kt3 := I6.out.t.fr 3
          have kt4 := I6.out.t.fr 4
          have tl6 := I6.out.t.lt
          have I7 := Lib.hid ((I6.out.put HS.out 3 (.int .i64 v.kind) (by simp)).put HS.out 4 (.slice D1 d1 e1) (by simp))
          simp only [List.set_cons_zero, List.set_cons_succ] at I7
          go_wp2_with fail
          go_meet
          exact ⟨_, (D1, d1, e1), v, I7, HV.out ▸ Tie.gV⟩
      case rest =>
        obtain ⟨ρ6, d, v, I6, HTV⟩ := hcut
        obtain ⟨w6, hwo⟩ : ∃ wo, wo = wc := ⟨_, rfl⟩
        subst hwo
        clear y4 yl4 tl4 rl4 I4 I5
        have y6 := I6.out.cell
        have yl6 := I6.out.y.lt
        have tl6 := I6.out.t.lt
        have rl6 := I6.out.r.lt
        have HCF := Lib.hid (fun s6 cs (h1 : Tie (colsB b0 b2 n) s5 cs) (h2 : s6 = gR (colsB b0 b2 n) s5) => cols_fin HF.out HS2.out HN.out HS3.out HTL.out HS4.out HTV.out HS5.out h1 h2 HBT.out)
        clear HTL HTV HBT HS5 HS4 HS3 HS2 HF
        have ha4 : bits .and .i64 f 4 = a4 := HA4.out.symm
        have hb2 : (a4 != 0) = b2 := HB2.out.symm
        go_upto_if 57 with fail
        clear ha4 hb2
        cases b2 with
        | true =>
          have hcf := HCF.out s5 [] (colsB_two s5).2 (colsB_two s5).1.symm
          go_wp2_with (first | (refine wpList_loadB I6.out.t (by rfl) 29 _ (by rfl) (by rfl) _ Tryd.underlying29 rfl (by kernel_rfl) ?_) | (refine wpList_storeB I6.out.r (by rfl) 29 _ _ (by rfl) 0 [.int .i64 (n : Int), .slice Pl3.none.1 Pl3.none.2.1 Pl3.none.2.2, .bool b1, .int .i64 v.kind, .slice d.1 d.2.1 d.2.2, .slice none 0 0] (by rfl) (by rfl) (by kernel_rfl) (by show 0 + 6 ≤ 6; decide) (by rfl) ?_; intro wz hxz hgz; have HXZ := Lib.hid hxz; have HGZ := Lib.hid hgz; clear hxz hgz))
          have hfin := I6.out.fin HS.out HGZ.out
          refine bodyPost_ret (results_box (vs := [.int .i64 (n : Int), .slice Pl3.none.1 Pl3.none.2.1 Pl3.none.2.2, .bool b1, .int .i64 v.kind, .slice d.1 d.2.1 d.2.2, .slice none 0 0]) rfl HXZ.out (by rfl) (by rfl) _ Tryd.underlying29 rfl (by kernel_rfl)) rfl ?_
          rw [hcf.1] at hfin
          refine ⟨mkT n [] b1 v, l, a, Pl3.none, d, rfl, ⟨hfin.2.2.1, hfin.2.2.2.1, hfin.2.2.2.2, by show (0 : Int) ≤ (n : Int); omega, by show (n : Int) ≤ 4096; omega, rfl⟩, hfin.1, hfin.2.1, hcf.2⟩
        | false =>
          obtain ⟨ρ7, hx7, i7⟩ := I6.out.belowE HS.out (w' := w6.alloc (.cells #[.string ⟨#[]⟩, .string ⟨#[]⟩, .string ⟨#[]⟩, .int .u16 0, .string ⟨#[]⟩, .string ⟨#[]⟩, .slice none 0 0, .slice none 0 0] 64)) ((Below.refl _ _).alloc (Nat.le_refl _) _) 7
          have HALL7 : Hid (Bx (Rl ρ7 7) (w6.alloc (.cells #[.string ⟨#[]⟩, .string ⟨#[]⟩, .string ⟨#[]⟩, .int .u16 0, .string ⟨#[]⟩, .string ⟨#[]⟩, .slice none 0 0, .slice none 0 0] 64)) w6.heap.size [.string ⟨#[]⟩, .string ⟨#[]⟩, .string ⟨#[]⟩, .int .u16 0, .string ⟨#[]⟩, .string ⟨#[]⟩, .slice none 0 0, .slice none 0 0]) := (Bx.alloc w6 #[.string ⟨#[]⟩, .string ⟨#[]⟩, .string ⟨#[]⟩, .int .u16 0, .string ⟨#[]⟩, .string ⟨#[]⟩, .slice none 0 0, .slice none 0 0] 64 (S := fun b => b = w6.heap.size) rfl rfl).mono fun b hb _ => by rw [hx7]; exact xt_ge (Nat.le_of_eq hb.symm)
          have I7 := Lib.hid i7
          clear i7 hx7
          have ha1 : bits .and .i64 f 1 = a1 := HA1.out.symm
          have hb0 : (a1 != 0) = b0 := HB0.out.symm
          obtain ⟨q, hq⟩ : ∃ q, q = (a1 == 0) := ⟨_, rfl⟩
          have hq2 : q = !b0 := by rw [hq, ← hb0]; cases h : (a1 == 0) <;> simp [bne, h]
          have HQ := Lib.hid hq2
          clear hq2
          have hqe : (a1 == 0) = q := hq.symm
          clear hq
          cases b0 with
          | true =>
            have hqq : q = false := HQ.out
            subst hqq
            clear HQ
            go_wp2_with fail
            refine (names_any (Y := w.heap.size) I7.out.rd (fun b hb => ⟨HS9.out b hb, by have := hb.2; omega⟩) (by go_simp) HALL7.out.one (by have := I6.out.xlt; omega) (by omega) (by omega)).mono ?_
            rintro e wp ⟨rfl, ⟨qa, qb, htq, hqa, hqb, hbq⟩, haq, hfq⟩
            obtain ⟨p, hp⟩ : ∃ p : B × B, p = (qa, qb) := ⟨_, rfl⟩
            have HTP : Hid (Tie (optR true ([], []) nmsR) s5 p) := by rw [hp]; exact htq
            obtain ⟨sp, hsp⟩ : ∃ sp, sp = gR (optR true ([], []) nmsR) s5 := ⟨_, rfl⟩
            have HSP := Lib.hid hsp
            have haq2 : RdAt (fun b => S b ∧ b < w.heap.size) wp X sp := by rw [hsp]; exact haq
            obtain ⟨ρp, hrp, ip⟩ := I7.out.genE haq2 hfq (fun b hb => by rcases hb with rfl | rfl; exact .inl I7.out.x9; exact .inr (.inl HALL7.out.role))
            have IP := Lib.hid ip
            have HALLP : Hid (Bx (Rl ρp 7) wp w6.heap.size [.string (str qa), .string (str qb), .string ⟨#[]⟩, .int .u16 0, .string ⟨#[]⟩, .string ⟨#[]⟩, .slice none 0 0, .slice none 0 0]) := hbq.mono fun b hb _ => by
              show ρp b = 7
              rw [hrp, hb, xt_lt HALL7.out.lt]
              exact HALL7.out.role
            rw [show qa = p.1 from by rw [hp], show qb = p.2 from by rw [hp]] at HALLP
            have HLP : Hid (p.1.length ≤ 65535 ∧ p.2.length ≤ 65535) := by rw [hp]; exact ⟨hqa, hqb⟩
            clear ip haq haq2 hfq hbq hqa hqb htq hp hsp hrp I7 HALL7 I6 y6 yl6 tl6 rl6 hb0 HA2 HB1 HA4 HB2 HA1 HB0
            have yp := IP.out.cell
            have ylp := IP.out.y.lt
            have tlp := IP.out.t.lt
            have rlp := IP.out.r.lt
            go_wp2_with fail
            go_loopw [12, 13] (fun i cb wr => ∃ ρ k cs st c, k ≤ n ∧ i = .int .i64 (k : Nat) ∧ Hid (CI S w X w.heap.size (w.heap.size + 1) (w.heap.size + 1 + 1) st [.int .i64 (n : Int), .slice c.1 c.2.1 c.2.2, .bool b1, .int .i64 v.kind, .slice d.1 d.2.1 d.2.2, .slice none 0 0] a l c cs d v.bytes ρ wr) ∧ Hid (Bx (Rl ρ 7) wr w6.heap.size [.string (str p.1), .string (str p.2), .string ⟨#[]⟩, .int .u16 0, .string ⟨#[]⟩, .string ⟨#[]⟩, .slice none 0 0, .slice none 0 0]) ∧ Hid (cs.length = k) ∧ Hid (PrgG (colR true p) n sp k cs st)) (fun i _ _ => n - (intOf i).toNat)
            case atStart => exact ⟨_, 0, [], sp, Pl3.none, by omega, rfl, IP, HALLP, rfl, PrgG.zero _ _ _⟩
            case round =>
              clear IP HALLP yp ylp tlp rlp
              obtain ⟨ρ, k, cs, st, c, hk, rfl, I8, HALL8, HL, HP⟩ := hrel
              have tn := I8.out.t.c 0 _ rfl
              have y8 := I8.out.cell
              have yl8 := I8.out.y.lt
              have tl8 := I8.out.t.lt
              have rl8 := I8.out.r.lt
              by_cases hlt2 : k < n
              · cases st with
                | error e =>
                  obtain ⟨hst, hti⟩ := HP.out.fin (.inr ⟨e, rfl⟩)
                  have hcf := HCF.out (.error e) cs (colsB_one HTP.out (by rw [← HSP.out]; exact hti)).2 (by rw [(colsB_one HTP.out (by rw [← HSP.out]; exact hti)).1, ← HSP.out]; exact hst)
                  have hne : e ≠ 0 := by obtain ⟨_, _, _, _, _, _, _, g4⟩ := I8.out.rd; exact g4 e rfl
                  have hne2 : (e == 0) = false := by simpa using hne
                  obtain ⟨AX, nX, cX, g0, g1, g2, g3, g4⟩ := I8.out.rd
                  clear g0 g2 g3 g4
                  simp only [werr_error] at g1
                  go_wp2_with (first | (refine wpList_loadB I8.out.t (by rfl) 29 _ (by rfl) (by rfl) _ Tryd.underlying29 rfl (by kernel_rfl) ?_) | (refine wpList_storeB I8.out.r (by rfl) 29 _ _ (by rfl) 0 [.int .i64 (n : Int), .slice c.1 c.2.1 c.2.2, .bool b1, .int .i64 v.kind, .slice d.1 d.2.1 d.2.2, .slice none 0 0] (by rfl) (by rfl) (by kernel_rfl) (by show 0 + 6 ≤ 6; decide) (by rfl) ?_; intro wz hxz hgz; have HXZ := Lib.hid hxz; have HGZ := Lib.hid hgz; clear hxz hgz))
                  have hfin := I8.out.fin HS.out HGZ.out
                  refine bodyPost_ret (results_box (vs := [.int .i64 (n : Int), .slice c.1 c.2.1 c.2.2, .bool b1, .int .i64 v.kind, .slice d.1 d.2.1 d.2.2, .slice none 0 0]) rfl HXZ.out (by rfl) (by rfl) _ Tryd.underlying29 rfl (by kernel_rfl)) rfl ?_
                  rw [hcf.1] at hfin
                  refine ⟨mkT n cs b1 v, l, a, c, d, rfl, ⟨hfin.2.2.1, hfin.2.2.2.1, hfin.2.2.2.2, by show (0 : Int) ≤ (n : Int); omega, by show (n : Int) ≤ 4096; omega, rfl⟩, hfin.1, hfin.2.1, hcf.2⟩
                | ok rest =>
                  obtain ⟨AX, nX, cX, g0, g1, g2, g3, g4⟩ := I8.out.rd
                  clear g0 g2 g3 g4
                  simp only [werr_ok] at g1
                  go_upto_region 26 with (first | (refine wpList_loadB HALL8.out (by rfl) 64 _ (by rfl) (by rfl) _ Tryd.underlying64 rfl (by kernel_rfl) ?_) | (refine wpList_store_newB (by rfl) 64 _ _ (by rfl) _ _ _ _ (by rfl) (by rfl) (by simp) (by rfl) (by kernel_rfl) (by rfl) (by rfl) ?_; intro w9 hb9 hz9 hx9))
                  obtain ⟨ρ9, hr9, i9⟩ := I8.out.belowE HS.out hb9 8
                  have I9 := Lib.hid i9
                  have HALL9 := Lib.hid (HALL8.out.stepx (Fr.of_below hb9 : Fr (Rl ρ 10) wr w9) hr9)
                  have HC9 : Hid (Bx (Rl ρ9 8) w9 wr.heap.size [.string (str p.1), .string (str p.2), .string ⟨#[]⟩, .int .u16 0, .string ⟨#[]⟩, .string ⟨#[]⟩, .slice none 0 0, .slice none 0 0]) := hx9.mono fun b hb _ => by rw [hr9]; exact xt_ge (Nat.le_of_eq hb.symm)
                  have hCX : wr.heap.size ≠ X := by have := I8.out.xlt; omega
                  have hCY : wr.heap.size ≠ w.heap.size := by omega
                  have hAC : w6.heap.size ≠ wr.heap.size := by have := HALL8.out.lt; omega
                  clear i9 hb9 hx9 hr9 g1 y8 yl8 tl8 rl8 tn
                  have y9 := I9.out.cell
                  have yl9 := I9.out.y.lt
                  obtain ⟨q2, hq2⟩ : ∃ q2, q2 = p := ⟨_, rfl⟩
                  have HTQ : Hid (Tie (optR (!true) p nmsR) (.ok rest) q2) := by rw [hq2]; exact (opt_false_R (.ok rest)).2
                  obtain ⟨sq, hsq⟩ : ∃ sq, sq = gR (optR (!true) p nmsR) (.ok rest) := ⟨_, rfl⟩
                  have HSQ := Lib.hid hsq
                  have IQ : Hid (CI S w X w.heap.size (w.heap.size + 1) (w.heap.size + 1 + 1) sq [.int .i64 (n : Int), .slice c.1 c.2.1 c.2.2, .bool b1, .int .i64 v.kind, .slice d.1 d.2.1 d.2.2, .slice none 0 0] a l c cs d v.bytes ρ9 w9) := by rw [hsq, show gR (optR (!true) p nmsR) (.ok rest) = .ok rest from (opt_false_R (.ok rest)).1]; exact I9
                  have HLQ : Hid (q2.1.length ≤ 65535 ∧ q2.2.length ≤ 65535) := by rw [hq2]; exact HLP
                  have HCQ : Hid (Bx (Rl ρ9 8) w9 wr.heap.size [.string (str q2.1), .string (str q2.2), .string ⟨#[]⟩, .int .u16 0, .string ⟨#[]⟩, .string ⟨#[]⟩, .slice none 0 0, .slice none 0 0]) := by rw [hq2]; exact HC9
                  have HALLQ := HALL9
                  clear hq2 hsq HC9 I9 HALL9 y9 yl9
                  obtain ⟨wq, hwq⟩ : ∃ wq, wq = w9 := ⟨_, rfl⟩
                  subst hwq
                  obtain ⟨ρq, hrq⟩ : ∃ ρq, ρq = ρ9 := ⟨_, rfl⟩
                  subst hrq
                  have yq := IQ.out.cell
                  have ylq := IQ.out.y.lt
                  have tlq := IQ.out.t.lt
                  have cl := HCQ.out.lt
                  have HCR := Lib.hid (col_R true p (.ok rest) (q := q2) HTQ.out)
                  rw [← HSQ.out] at HCR
                  go_wp2_with fail
                  refine (rdx_text IQ.out.rd HS9.out).mono ?_
                  rintro e w10 ⟨rfl, ha10, hg10⟩
                  obtain ⟨nm, hnm⟩ : ∃ nm, nm = gV [] getText sq := ⟨_, rfl⟩
                  obtain ⟨s10, hs10⟩ : ∃ s10, s10 = gR getText sq := ⟨_, rfl⟩
                  have HNL : Hid (nm.length ≤ 65535) := hnm ▸ gtext_le sq
                  rw [← hnm] at HCR ⊢
                  rw [← hs10] at HCR ha10
                  clear hnm hs10
                  have hf10 := IQ.out.frX hg10
                  obtain ⟨ρ10, hr10, i10⟩ := IQ.out.callE ha10 hg10
                  have HALL10 := Lib.hid (HALLQ.out.stepx hf10 hr10)
                  have HC10 := Lib.hid (HCQ.out.stepx hf10 hr10)
                  have fc2 := HC10.out.c 2 _ rfl
                  have kc2 := HC10.out.fr 2
                  have cl10 := HC10.out.lt
                  have hf11 := HC10.out.frPut 2 (.string (str nm))
                  have I10 := Lib.hid (i10.stay HS.out (.inr rfl) hf11)
                  have HALL11 := Lib.hid (HALL10.out.stay hf11)
                  have HC11 := Lib.hid (HC10.out.put 2 (.string (str nm)) (by simp))
                  simp only [List.set_cons_zero, List.set_cons_succ] at HC11
                  have y10 := i10.cell
                  have yl10 := i10.y.lt
                  clear hf10 hr10 i10 hf11 ha10 hg10 HALL10 HC10 HALLQ HCQ IQ yq ylq tlq cl
                  go_wp2_with fail
                  refine (rdx_opt I10.out.rd HS9.out (I10.out.plain HPL.out HX0.out)).mono ?_
                  rintro e w11 ⟨⟨A1, n1, c1, A2, n2, c2, rfl, ho11⟩, ha11, hg11⟩
                  obtain ⟨o, ho⟩ : ∃ o, o = gV Opt.none (getO 20) s10 := ⟨_, rfl⟩
                  rw [← ho] at HCR ho11 ⊢
                  clear ho
                  have hf12 := I10.out.frX hg11
                  obtain ⟨ρ11, hr11, i11⟩ := I10.out.callE ha11 hg11
                  have HALL12 := Lib.hid (HALL11.out.stepx hf12 hr11)
                  have HC12 := Lib.hid (HC11.out.stepx hf12 hr11)
                  have HO11 : Hid (OptR (Rl ρ11 6) w11 9223372036854775807 20 A1 n1 c1 A2 n2 c2 o) := ho11.mono fun b hb _ => by rw [hr11]; exact xt_ge hb
                  have I11 := Lib.hid i11
                  clear hf12 hr11 i11 ha11 hg11 ho11 HALL11 HC11 I10 y10 yl10 fc2 kc2 cl10
                  have cl11 := HC12.out.lt
                  go_upto_region 30 with (first | (refine wpList_storeB HC12.out (by rfl) 62 _ _ (by rfl) 3 [.int .u16 (o.id : Int), .string (str o.space), .string (str o.name), .slice A1 n1 c1, .slice A2 n2 c2] (by rfl) (by rfl) (by kernel_rfl) (by show 3 + 5 ≤ 8; decide) (by rfl) ?_; intro w12 hx12 hg12))
                  have hf13 : Fr (Rl ρ11 8) w11 w12 := Fr.of_grown hg12 fun b e => by injection e with e; subst e; exact HC12.out.role
                  have I12 := Lib.hid (I11.out.stay HS.out (.inr rfl) hf13)
                  have HALL13 := Lib.hid (HALL12.out.stay hf13)
                  have HO12 := Lib.hid (goesOptR.stay HO11.out hf13 (by decide))
                  have HC13 : Hid (Bx (Rl ρ11 8) w12 wr.heap.size [.string (str q2.1), .string (str q2.2), .string (str nm), .int .u16 (o.id : Int), .string (str o.space), .string (str o.name), .slice A1 n1 c1, .slice A2 n2 c2]) := hx12
                  clear hx12 hg12 hf13 I11 HALL12 HO11 HC12 cl11
                  obtain ⟨x, hx⟩ : ∃ x : Col, x = ⟨q2.1, q2.2, nm, o⟩ := ⟨_, rfl⟩
                  have hba : Below w12.heap.size w12 (w12.alloc (.cells #[.string (str q2.1), .string (str q2.2), .string (str nm), .int .u16 (o.id : Int), .string (str o.space), .string (str o.name), .slice A1 n1 c1, .slice A2 n2 c2] 64)) := (Below.refl _ _).alloc (Nat.le_refl _) _
                  have IA := Lib.hid (I12.out.after hba)
                  have HALLA := Lib.hid (HALL13.out.after hba)
                  have HXA : Hid (colP 9223372036854775807 20 (Rl ρ11 6) (w12.alloc (.cells #[.string (str q2.1), .string (str q2.2), .string (str nm), .int .u16 (o.id : Int), .string (str o.space), .string (str o.name), .slice A1 n1 c1, .slice A2 n2 c2] 64)) x [.string (str q2.1), .string (str q2.2), .string (str nm), .int .u16 (o.id : Int), .string (str o.space), .string (str o.name), .slice A1 n1 c1, .slice A2 n2 c2]) := by
                    subst hx
                    have := HLQ.out
                    have := HNL.out
                    exact ⟨A1, n1, c1, A2, n2, c2, rfl, by show q2.1.length ≤ _; omega, by show q2.2.length ≤ _; omega, by show nm.length ≤ _; omega, HO12.out.after hba⟩
                  clear hba HO12
                  have t1 := I12.out.t.c 1 _ rfl
                  have tl12 := I12.out.t.lt
                  have hcl : c.2.1 ≤ 4096 := by have := I12.out.cl.len (by decide); have := HL.out; omega
                  go_wp2_with (first | (refine wpList_loadB HC13.out (by rfl) 64 _ (by rfl) (by rfl) _ Tryd.underlying64 rfl (by kernel_rfl) ?_) | (at_builtin; go_loud (refine wpList_appX rfl tyCol _ _ rfl (ρ := ρ11) (r := 5) _ _ _ cs rfl IA.out.cl _ _ _ _ [x] rfl (arr_lit (P := colP 9223372036854775807 20 (Rl ρ11 6) _) _ #[.string (str q2.1), .string (str q2.2), .string (str nm), .int .u16 (o.id : Int), .string (str o.space), .string (str o.name), .slice A1 n1 c1, .slice A2 n2 c2] x rfl HXA.out (by simp)) colP_one (fun _ _ _ h => h) (by omega) (by unfold maxLen; omega) ?_); intro A13 m13 d13 w13 ρ13 hx13 hown13 hf13; have I13 := Lib.hid (IA.out.app5 HS.out (c' := (A13, m13, d13)) hf13 hx13 hown13); have HALL14 := Lib.hid (HALLA.out.stepx hf13 hx13); clear hx13 hown13 hf13; have t1 := I13.out.t.c 1 _ rfl; have kt1 := I13.out.t.fr 1; have tl13 := I13.out.t.lt))
                  have I14 := Lib.hid (I13.out.put HS.out 1 (.slice A13 m13 d13) (by simp))
                  simp only [List.set_cons_zero, List.set_cons_succ] at I14
                  have HALL15 := Lib.hid (HALL14.out.stay (I13.out.t.frPut 1 (.slice A13 m13 d13)))
                  have HPX := Lib.hid (HP.out.any hlt2 x (by rw [hx]; exact HCR.out.2))
                  rw [HCR.out.1] at HPX
                  refine ⟨⟨ρ13, k + 1, cs ++ [x], _, (A13, m13, d13), by omega, by go_num, I14, HALL15, by rw [List.length_append, HL.out]; rfl, HPX⟩, by simp [intOf]; omega⟩
              · obtain rfl : n = k := by omega
                obtain ⟨hst, hti⟩ := HP.out.fin (.inl rfl)
                have hcf := HCF.out st cs (colsB_one HTP.out (by rw [← HSP.out]; exact hti)).2 (by rw [(colsB_one HTP.out (by rw [← HSP.out]; exact hti)).1, ← HSP.out]; exact hst)
                go_wp2_with (first | (refine wpList_loadB I8.out.t (by rfl) 29 _ (by rfl) (by rfl) _ Tryd.underlying29 rfl (by kernel_rfl) ?_) | (refine wpList_storeB I8.out.r (by rfl) 29 _ _ (by rfl) 0 [.int .i64 (n : Int), .slice c.1 c.2.1 c.2.2, .bool b1, .int .i64 v.kind, .slice d.1 d.2.1 d.2.2, .slice none 0 0] (by rfl) (by rfl) (by kernel_rfl) (by show 0 + 6 ≤ 6; decide) (by rfl) ?_; intro wz hxz hgz; have HXZ := Lib.hid hxz; have HGZ := Lib.hid hgz; clear hxz hgz))
                have hfin := I8.out.fin HS.out HGZ.out
                refine bodyPost_ret (results_box (vs := [.int .i64 (n : Int), .slice c.1 c.2.1 c.2.2, .bool b1, .int .i64 v.kind, .slice d.1 d.2.1 d.2.2, .slice none 0 0]) rfl HXZ.out (by rfl) (by rfl) _ Tryd.underlying29 rfl (by kernel_rfl)) rfl ?_
                rw [hcf.1] at hfin
                refine ⟨mkT n cs b1 v, l, a, c, d, rfl, ⟨hfin.2.2.1, hfin.2.2.2.1, hfin.2.2.2.2, by show (0 : Int) ≤ (n : Int); omega, by show (n : Int) ≤ 4096; omega, rfl⟩, hfin.1, hfin.2.1, hcf.2⟩
          | false =>
            have hqq : q = true := HQ.out
            subst hqq
            clear HQ
            obtain ⟨p, hp⟩ : ∃ p : B × B, p = ([], []) := ⟨_, rfl⟩
            have HTP : Hid (Tie (optR false ([], []) nmsR) s5 p) := by rw [hp]; exact (opt_false_R s5).2
            obtain ⟨sp, hsp⟩ : ∃ sp, sp = gR (optR false ([], []) nmsR) s5 := ⟨_, rfl⟩
            have HSP := Lib.hid hsp
            have IP : Hid (CI S w X w.heap.size (w.heap.size + 1) (w.heap.size + 1 + 1) sp [.int .i64 (n : Int), .slice Pl3.none.1 Pl3.none.2.1 Pl3.none.2.2, .bool b1, .int .i64 v.kind, .slice d.1 d.2.1 d.2.2, .slice none 0 0] a l Pl3.none [] d v.bytes ρ7 (w6.alloc (.cells #[.string ⟨#[]⟩, .string ⟨#[]⟩, .string ⟨#[]⟩, .int .u16 0, .string ⟨#[]⟩, .string ⟨#[]⟩, .slice none 0 0, .slice none 0 0] 64))) := by rw [hsp, (opt_false_R s5).1]; exact I7
            have HALLP : Hid (Bx (Rl ρ7 7) (w6.alloc (.cells #[.string ⟨#[]⟩, .string ⟨#[]⟩, .string ⟨#[]⟩, .int .u16 0, .string ⟨#[]⟩, .string ⟨#[]⟩, .slice none 0 0, .slice none 0 0] 64)) w6.heap.size [.string (str p.1), .string (str p.2), .string ⟨#[]⟩, .int .u16 0, .string ⟨#[]⟩, .string ⟨#[]⟩, .slice none 0 0, .slice none 0 0]) := by rw [hp]; exact HALL7
            clear hp hsp I7 HALL7 I6 hb0 HA2 HB1 HA4 HB2 HA1 HB0
            have yp : True := trivial
            have ylp : True := trivial
            have tlp : True := trivial
            have rlp : True := trivial
            go_wp2_with fail
            go_loopw [12, 13] (fun i cb wr => ∃ ρ k cs st c, k ≤ n ∧ i = .int .i64 (k : Nat) ∧ Hid (CI S w X w.heap.size (w.heap.size + 1) (w.heap.size + 1 + 1) st [.int .i64 (n : Int), .slice c.1 c.2.1 c.2.2, .bool b1, .int .i64 v.kind, .slice d.1 d.2.1 d.2.2, .slice none 0 0] a l c cs d v.bytes ρ wr) ∧ Hid (Bx (Rl ρ 7) wr w6.heap.size [.string (str p.1), .string (str p.2), .string ⟨#[]⟩, .int .u16 0, .string ⟨#[]⟩, .string ⟨#[]⟩, .slice none 0 0, .slice none 0 0]) ∧ Hid (cs.length = k) ∧ Hid (PrgG (colR false p) n sp k cs st)) (fun i _ _ => n - (intOf i).toNat)
            case atStart => exact ⟨_, 0, [], sp, Pl3.none, by omega, rfl, IP, HALLP, rfl, PrgG.zero _ _ _⟩
            case round =>
              clear IP HALLP yp ylp tlp rlp
              obtain ⟨ρ, k, cs, st, c, hk, rfl, I8, HALL8, HL, HP⟩ := hrel
              have tn := I8.out.t.c 0 _ rfl
              have y8 := I8.out.cell
              have yl8 := I8.out.y.lt
              have tl8 := I8.out.t.lt
              have rl8 := I8.out.r.lt
              by_cases hlt2 : k < n
              · cases st with
                | error e =>
                  obtain ⟨hst, hti⟩ := HP.out.fin (.inr ⟨e, rfl⟩)
                  have hcf := HCF.out (.error e) cs (colsB_one HTP.out (by rw [← HSP.out]; exact hti)).2 (by rw [(colsB_one HTP.out (by rw [← HSP.out]; exact hti)).1, ← HSP.out]; exact hst)
                  have hne : e ≠ 0 := by obtain ⟨_, _, _, _, _, _, _, g4⟩ := I8.out.rd; exact g4 e rfl
                  have hne2 : (e == 0) = false := by simpa using hne
                  obtain ⟨AX, nX, cX, g0, g1, g2, g3, g4⟩ := I8.out.rd
                  clear g0 g2 g3 g4
                  simp only [werr_error] at g1
                  go_wp2_with (first | (refine wpList_loadB I8.out.t (by rfl) 29 _ (by rfl) (by rfl) _ Tryd.underlying29 rfl (by kernel_rfl) ?_) | (refine wpList_storeB I8.out.r (by rfl) 29 _ _ (by rfl) 0 [.int .i64 (n : Int), .slice c.1 c.2.1 c.2.2, .bool b1, .int .i64 v.kind, .slice d.1 d.2.1 d.2.2, .slice none 0 0] (by rfl) (by rfl) (by kernel_rfl) (by show 0 + 6 ≤ 6; decide) (by rfl) ?_; intro wz hxz hgz; have HXZ := Lib.hid hxz; have HGZ := Lib.hid hgz; clear hxz hgz))
                  have hfin := I8.out.fin HS.out HGZ.out
                  refine bodyPost_ret (results_box (vs := [.int .i64 (n : Int), .slice c.1 c.2.1 c.2.2, .bool b1, .int .i64 v.kind, .slice d.1 d.2.1 d.2.2, .slice none 0 0]) rfl HXZ.out (by rfl) (by rfl) _ Tryd.underlying29 rfl (by kernel_rfl)) rfl ?_
                  rw [hcf.1] at hfin
                  refine ⟨mkT n cs b1 v, l, a, c, d, rfl, ⟨hfin.2.2.1, hfin.2.2.2.1, hfin.2.2.2.2, by show (0 : Int) ≤ (n : Int); omega, by show (n : Int) ≤ 4096; omega, rfl⟩, hfin.1, hfin.2.1, hcf.2⟩
                | ok rest =>
                  obtain ⟨AX, nX, cX, g0, g1, g2, g3, g4⟩ := I8.out.rd
                  clear g0 g2 g3 g4
                  simp only [werr_ok] at g1
                  go_upto_region 26 with (first | (refine wpList_loadB HALL8.out (by rfl) 64 _ (by rfl) (by rfl) _ Tryd.underlying64 rfl (by kernel_rfl) ?_) | (refine wpList_store_newB (by rfl) 64 _ _ (by rfl) _ _ _ _ (by rfl) (by rfl) (by simp) (by rfl) (by kernel_rfl) (by rfl) (by rfl) ?_; intro w9 hb9 hz9 hx9))
                  obtain ⟨ρ9, hr9, i9⟩ := I8.out.belowE HS.out hb9 8
                  have I9 := Lib.hid i9
                  have HALL9 := Lib.hid (HALL8.out.stepx (Fr.of_below hb9 : Fr (Rl ρ 10) wr w9) hr9)
                  have HC9 : Hid (Bx (Rl ρ9 8) w9 wr.heap.size [.string (str p.1), .string (str p.2), .string ⟨#[]⟩, .int .u16 0, .string ⟨#[]⟩, .string ⟨#[]⟩, .slice none 0 0, .slice none 0 0]) := hx9.mono fun b hb _ => by rw [hr9]; exact xt_ge (Nat.le_of_eq hb.symm)
                  have hCX : wr.heap.size ≠ X := by have := I8.out.xlt; omega
                  have hCY : wr.heap.size ≠ w.heap.size := by omega
                  have hAC : w6.heap.size ≠ wr.heap.size := by have := HALL8.out.lt; omega
                  clear i9 hb9 hx9 hr9 g1 y8 yl8 tl8 rl8 tn
                  have y9 := I9.out.cell
                  have yl9 := I9.out.y.lt
                  go_wp2_with fail
                  refine (names_any (Y := w.heap.size) I9.out.rd (fun b hb => ⟨HS9.out b hb, by have := hb.2; omega⟩) y9 HC9.out.one hCX.symm (by omega) hCY.symm).mono ?_
                  rintro e wq ⟨rfl, ⟨qa, qb, htq, hqa, hqb, hbq⟩, haq, hfq⟩
                  obtain ⟨q2, hq2⟩ : ∃ q2 : B × B, q2 = (qa, qb) := ⟨_, rfl⟩
                  have HTQ : Hid (Tie (optR (!false) p nmsR) (.ok rest) q2) := by rw [hq2]; exact htq
                  obtain ⟨sq, hsq⟩ : ∃ sq, sq = gR (optR (!false) p nmsR) (.ok rest) := ⟨_, rfl⟩
                  have HSQ := Lib.hid hsq
                  have haq2 : RdAt (fun b => S b ∧ b < w.heap.size) wq X sq := by rw [hsq]; exact haq
                  obtain ⟨ρq, hrq, iq⟩ := I9.out.genE haq2 hfq (fun b hb => by rcases hb with rfl | rfl; exact .inl I9.out.x9; exact .inr (.inr HC9.out.role))
                  have IQ := Lib.hid iq
                  have hdis : ∀ b, ρ9 b = 7 → ¬ (b = X ∨ b = wr.heap.size) := by
                    rintro b hb (rfl | rfl)
                    · have := I9.out.x9; omega
                    · have : ρ9 wr.heap.size = 8 := HC9.out.role
                      omega
                  have HALLQ := Lib.hid (HALL9.out.stepT hfq hdis hrq)
                  have HCQ : Hid (Bx (Rl ρq 8) wq wr.heap.size [.string (str qa), .string (str qb), .string ⟨#[]⟩, .int .u16 0, .string ⟨#[]⟩, .string ⟨#[]⟩, .slice none 0 0, .slice none 0 0]) := hbq.mono fun b hb _ => by
                    show ρq b = 8
                    rw [hrq, hb, xt_lt HC9.out.lt]
                    exact HC9.out.role
                  have HLQ : Hid (q2.1.length ≤ 65535 ∧ q2.2.length ≤ 65535) := by rw [hq2]; exact ⟨hqa, hqb⟩
                  rw [show qa = q2.1 from by rw [hq2], show qb = q2.2 from by rw [hq2]] at HCQ
                  clear iq hdis haq haq2 hfq hbq hqa hqb htq hq2 hsq hrq y9 I9 HC9 HALL9
                  have yq := IQ.out.cell
                  have ylq := IQ.out.y.lt
                  have tlq := IQ.out.t.lt
                  have cl := HCQ.out.lt
                  have HCR := Lib.hid (col_R false p (.ok rest) (q := q2) HTQ.out)
                  rw [← HSQ.out] at HCR
                  go_wp2_with fail
                  refine (rdx_text IQ.out.rd HS9.out).mono ?_
                  rintro e w10 ⟨rfl, ha10, hg10⟩
                  obtain ⟨nm, hnm⟩ : ∃ nm, nm = gV [] getText sq := ⟨_, rfl⟩
                  obtain ⟨s10, hs10⟩ : ∃ s10, s10 = gR getText sq := ⟨_, rfl⟩
                  have HNL : Hid (nm.length ≤ 65535) := hnm ▸ gtext_le sq
                  rw [← hnm] at HCR ⊢
                  rw [← hs10] at HCR ha10
                  clear hnm hs10
                  have hf10 := IQ.out.frX hg10
                  obtain ⟨ρ10, hr10, i10⟩ := IQ.out.callE ha10 hg10
                  have HALL10 := Lib.hid (HALLQ.out.stepx hf10 hr10)
                  have HC10 := Lib.hid (HCQ.out.stepx hf10 hr10)
                  have fc2 := HC10.out.c 2 _ rfl
                  have kc2 := HC10.out.fr 2
                  have cl10 := HC10.out.lt
                  have hf11 := HC10.out.frPut 2 (.string (str nm))
                  have I10 := Lib.hid (i10.stay HS.out (.inr rfl) hf11)
                  have HALL11 := Lib.hid (HALL10.out.stay hf11)
                  have HC11 := Lib.hid (HC10.out.put 2 (.string (str nm)) (by simp))
                  simp only [List.set_cons_zero, List.set_cons_succ] at HC11
                  have y10 := i10.cell
                  have yl10 := i10.y.lt
                  clear hf10 hr10 i10 hf11 ha10 hg10 HALL10 HC10 HALLQ HCQ IQ yq ylq tlq cl
                  go_wp2_with fail
                  refine (rdx_opt I10.out.rd HS9.out (I10.out.plain HPL.out HX0.out)).mono ?_
                  rintro e w11 ⟨⟨A1, n1, c1, A2, n2, c2, rfl, ho11⟩, ha11, hg11⟩
                  obtain ⟨o, ho⟩ : ∃ o, o = gV Opt.none (getO 20) s10 := ⟨_, rfl⟩
                  rw [← ho] at HCR ho11 ⊢
                  clear ho
                  have hf12 := I10.out.frX hg11
                  obtain ⟨ρ11, hr11, i11⟩ := I10.out.callE ha11 hg11
                  have HALL12 := Lib.hid (HALL11.out.stepx hf12 hr11)
                  have HC12 := Lib.hid (HC11.out.stepx hf12 hr11)
                  have HO11 : Hid (OptR (Rl ρ11 6) w11 9223372036854775807 20 A1 n1 c1 A2 n2 c2 o) := ho11.mono fun b hb _ => by rw [hr11]; exact xt_ge hb
                  have I11 := Lib.hid i11
                  clear hf12 hr11 i11 ha11 hg11 ho11 HALL11 HC11 I10 y10 yl10 fc2 kc2 cl10
                  have cl11 := HC12.out.lt
                  go_upto_region 30 with (first | (refine wpList_storeB HC12.out (by rfl) 62 _ _ (by rfl) 3 [.int .u16 (o.id : Int), .string (str o.space), .string (str o.name), .slice A1 n1 c1, .slice A2 n2 c2] (by rfl) (by rfl) (by kernel_rfl) (by show 3 + 5 ≤ 8; decide) (by rfl) ?_; intro w12 hx12 hg12))
                  have hf13 : Fr (Rl ρ11 8) w11 w12 := Fr.of_grown hg12 fun b e => by injection e with e; subst e; exact HC12.out.role
                  have I12 := Lib.hid (I11.out.stay HS.out (.inr rfl) hf13)
                  have HALL13 := Lib.hid (HALL12.out.stay hf13)
                  have HO12 := Lib.hid (goesOptR.stay HO11.out hf13 (by decide))
                  have HC13 : Hid (Bx (Rl ρ11 8) w12 wr.heap.size [.string (str q2.1), .string (str q2.2), .string (str nm), .int .u16 (o.id : Int), .string (str o.space), .string (str o.name), .slice A1 n1 c1, .slice A2 n2 c2]) := hx12
                  clear hx12 hg12 hf13 I11 HALL12 HO11 HC12 cl11
                  obtain ⟨x, hx⟩ : ∃ x : Col, x = ⟨q2.1, q2.2, nm, o⟩ := ⟨_, rfl⟩
                  have hba : Below w12.heap.size w12 (w12.alloc (.cells #[.string (str q2.1), .string (str q2.2), .string (str nm), .int .u16 (o.id : Int), .string (str o.space), .string (str o.name), .slice A1 n1 c1, .slice A2 n2 c2] 64)) := (Below.refl _ _).alloc (Nat.le_refl _) _
                  have IA := Lib.hid (I12.out.after hba)
                  have HALLA := Lib.hid (HALL13.out.after hba)
                  have HXA : Hid (colP 9223372036854775807 20 (Rl ρ11 6) (w12.alloc (.cells #[.string (str q2.1), .string (str q2.2), .string (str nm), .int .u16 (o.id : Int), .string (str o.space), .string (str o.name), .slice A1 n1 c1, .slice A2 n2 c2] 64)) x [.string (str q2.1), .string (str q2.2), .string (str nm), .int .u16 (o.id : Int), .string (str o.space), .string (str o.name), .slice A1 n1 c1, .slice A2 n2 c2]) := by
                    subst hx
                    have := HLQ.out
                    have := HNL.out
                    exact ⟨A1, n1, c1, A2, n2, c2, rfl, by show q2.1.length ≤ _; omega, by show q2.2.length ≤ _; omega, by show nm.length ≤ _; omega, HO12.out.after hba⟩
                  clear hba HO12
                  have t1 := I12.out.t.c 1 _ rfl
                  have tl12 := I12.out.t.lt
                  have hcl : c.2.1 ≤ 4096 := by have := I12.out.cl.len (by decide); have := HL.out; omega
                  go_wp2_with (first | (refine wpList_loadB HC13.out (by rfl) 64 _ (by rfl) (by rfl) _ Tryd.underlying64 rfl (by kernel_rfl) ?_) | (at_builtin; go_loud (refine wpList_appX rfl tyCol _ _ rfl (ρ := ρ11) (r := 5) _ _ _ cs rfl IA.out.cl _ _ _ _ [x] rfl (arr_lit (P := colP 9223372036854775807 20 (Rl ρ11 6) _) _ #[.string (str q2.1), .string (str q2.2), .string (str nm), .int .u16 (o.id : Int), .string (str o.space), .string (str o.name), .slice A1 n1 c1, .slice A2 n2 c2] x rfl HXA.out (by simp)) colP_one (fun _ _ _ h => h) (by omega) (by unfold maxLen; omega) ?_); intro A13 m13 d13 w13 ρ13 hx13 hown13 hf13; have I13 := Lib.hid (IA.out.app5 HS.out (c' := (A13, m13, d13)) hf13 hx13 hown13); have HALL14 := Lib.hid (HALLA.out.stepx hf13 hx13); clear hx13 hown13 hf13; have t1 := I13.out.t.c 1 _ rfl; have kt1 := I13.out.t.fr 1; have tl13 := I13.out.t.lt))
                  have I14 := Lib.hid (I13.out.put HS.out 1 (.slice A13 m13 d13) (by simp))
                  simp only [List.set_cons_zero, List.set_cons_succ] at I14
                  have HALL15 := Lib.hid (HALL14.out.stay (I13.out.t.frPut 1 (.slice A13 m13 d13)))
                  have HPX := Lib.hid (HP.out.any hlt2 x (by rw [hx]; exact HCR.out.2))
                  rw [HCR.out.1] at HPX
                  refine ⟨⟨ρ13, k + 1, cs ++ [x], _, (A13, m13, d13), by omega, by go_num, I14, HALL15, by rw [List.length_append, HL.out]; rfl, HPX⟩, by simp [intOf]; omega⟩
              · obtain rfl : n = k := by omega
                obtain ⟨hst, hti⟩ := HP.out.fin (.inl rfl)
                have hcf := HCF.out st cs (colsB_one HTP.out (by rw [← HSP.out]; exact hti)).2 (by rw [(colsB_one HTP.out (by rw [← HSP.out]; exact hti)).1, ← HSP.out]; exact hst)
                go_wp2_with (first | (refine wpList_loadB I8.out.t (by rfl) 29 _ (by rfl) (by rfl) _ Tryd.underlying29 rfl (by kernel_rfl) ?_) | (refine wpList_storeB I8.out.r (by rfl) 29 _ _ (by rfl) 0 [.int .i64 (n : Int), .slice c.1 c.2.1 c.2.2, .bool b1, .int .i64 v.kind, .slice d.1 d.2.1 d.2.2, .slice none 0 0] (by rfl) (by rfl) (by kernel_rfl) (by show 0 + 6 ≤ 6; decide) (by rfl) ?_; intro wz hxz hgz; have HXZ := Lib.hid hxz; have HGZ := Lib.hid hgz; clear hxz hgz))
                have hfin := I8.out.fin HS.out HGZ.out
                refine bodyPost_ret (results_box (vs := [.int .i64 (n : Int), .slice c.1 c.2.1 c.2.2, .bool b1, .int .i64 v.kind, .slice d.1 d.2.1 d.2.2, .slice none 0 0]) rfl HXZ.out (by rfl) (by rfl) _ Tryd.underlying29 rfl (by kernel_rfl)) rfl ?_
                rw [hcf.1] at hfin
                refine ⟨mkT n cs b1 v, l, a, c, d, rfl, ⟨hfin.2.2.1, hfin.2.2.2.1, hfin.2.2.2.2, by show (0 : Int) ≤ (n : Int); omega, by show (n : Int) ≤ 4096; omega, rfl⟩, hfin.1, hfin.2.1, hcf.2⟩
end Go.Proofs.Sb
