/- The walk over signalboxlaw02.PrimsTold: true at every input, and nothing that was there has turned. Conditions: a slice's length up to 2^63 - 1. -/
import Derived.Test.YtfgdohdbabhplaaLawValues
namespace Go.Proofs.Sb
open Go.RowKit _root_.Sb

theorem takeN_cases (k : Nat) (b : B) : (∃ x r, takeN k b = .ok (x, r) ∧ x.length = k ∧ x.length + r.length = b.length ∧ x ++ r = b) ∨ (b.length < k ∧ takeN k b = .error 10) := by
  unfold takeN
  by_cases h : b.length < k
  · exact .inr ⟨h, if_pos h⟩
  · exact .inl ⟨b.take k, b.drop k, if_neg h, by rw [List.length_take]; omega, by rw [List.length_take, List.length_drop]; omega, List.take_append_drop k b⟩

theorem getN_enc (k x : Nat) (r : B) (hx : x < 256 ^ k) : getN k (enc k x ++ r) = .ok (x, r) := by
  unfold getN
  rw [if_neg (by simp [enc_length]), List.take_left' (enc_length k x), List.drop_left' (enc_length k x), be_enc, Nat.mod_eq_of_lt hx]
theorem getNum_enc (x : Nat) (r : B) (hx : x < 4294967296) : getNum (enc 4 x ++ r) = .ok (sgn 4 x, r) := by
  unfold getNum
  rw [getN_enc 4 x r (by simpa using hx)]
theorem enc4_list (n : Nat) : enc 4 n = [UInt8.ofNat (n / 16777216), UInt8.ofNat (n / 65536), UInt8.ofNat (n / 256), UInt8.ofNat n] := by
  simp [enc, encAt, List.range_succ]
theorem enc4_drop (n : Nat) (r : B) : (enc 4 n ++ r).drop 2 = enc 2 (n % 65536) ++ r := by
  have e : enc 2 (n % 65536) = [UInt8.ofNat (n / 256), UInt8.ofNat n] := by
    simp [enc, encAt, List.range_succ]
    constructor
    · apply UInt8.toNat.inj; simp only [UInt8.toNat_ofNat']; omega
    · apply UInt8.toNat.inj; simp only [UInt8.toNat_ofNat']; omega
  rw [enc4_list, e]
  rfl
theorem bv_enc4 (n : Nat) (h : n < 4294967296) : (#[Value.int IntKind.u8 ((n : Int) / 16777216), Value.int IntKind.u8 ((n : Int) / 65536 % 256), Value.int IntKind.u8 ((n : Int) / 256 % 256), Value.int IntKind.u8 ((n : Int) % 256)] : Array Value).toList = bv (enc 4 n) := by
  rw [enc4_list]
  simp only [bv, List.map_cons, List.map_nil, UInt8.toNat_ofNat']
  have e1 : (n : Int) / 16777216 = ((n / 16777216 % 2 ^ 8 : Nat) : Int) := by omega
  have e2 : (n : Int) / 65536 % 256 = ((n / 65536 % 2 ^ 8 : Nat) : Int) := by omega
  have e3 : (n : Int) / 256 % 256 = ((n / 256 % 2 ^ 8 : Nat) : Int) := by omega
  have e4 : (n : Int) % 256 = ((n % 2 ^ 8 : Nat) : Int) := by omega
  rw [e1, e2, e3, e4]
theorem str_append (a b : B) : str a ++ str b = str (a ++ b) := by
  apply ByteArray.ext
  simp [str]
theorem add_str (a b : B) (h : a.length + b.length ≤ 9223372036854775807) (w : World) : (Op.stringOp .add (str a) (str b)).run Try.prog w = .ok (.string (str (a ++ b))) w := by
  rw [run_string_add_sum w _ _ (by simpa using h), str_append]

set_option maxHeartbeats 2000000 in
set_option maxRecDepth 100000 in
theorem primsTold_small {S : Nat → Prop} {A : Option Addr} {m c : Nat} {bs : B} {n : Nat} {w : World} (hs : Sl S w A m c bs) (hm : m ≤ 2000) (hn : n < 4294967296) :
    Calls Try.prog 4 #[.int .u32 (n : Int), .slice A m c] w fun e w' => e = .returned (.bool true) ∧ Below w.heap.size w w' := by
  have hml := Lib.hid hs.len
  obtain ⟨K, hK⟩ : ∃ K, wrap64 (wrap32 (n : Int)) = K := ⟨_, rfl⟩
  obtain ⟨rl, hrl⟩ : ∃ r, getLong (enc 4 n ++ bs) = r := ⟨_, rfl⟩
  obtain ⟨rv, hrv⟩ : ∃ r, getValue (enc 4 n ++ bs) = r := ⟨_, rfl⟩
  obtain ⟨rt, hrt⟩ : ∃ r, takeN (n % 65536) bs = r := ⟨_, rfl⟩
  have HL := Lib.hid hrl; clear hrl
  have HV := Lib.hid hrv; clear hrv
  have HT := Lib.hid hrt; clear hrt
  have hKs : K = sgn 4 n := by rw [← hK]; unfold wrap64 wrap32 sgn; simp only [Nat.reducePow, Nat.reduceDiv]; split <;> omega
  have HKS := Lib.hid hKs; clear hKs
  obtain ⟨s, hsd⟩ : ∃ s, n % 65536 = s := ⟨_, rfl⟩
  have hs65 : s < 65536 := by omega
  have hbits : bits BinOp.and IntKind.u32 (n : Int) 65535 = (s : Int) := by
    rw [show (65535 : Int) = ((65535 : Nat) : Int) from rfl, u32_and_nat n 65535 hn (by omega), Nat.and_two_pow_sub_one_eq_mod n 16]
    omega
  have HS := Lib.hid hsd; clear hsd
  rw [HS.out] at HT
  go_enter Try.func4, Try.ntmps4
  go_wp2_with fail
  refine (awake2 _).mono ?_
  rintro e w1 ⟨rfl, hb1⟩
  go_wp2_with (first | (at_builtin; refine wpList_app rfl _ _ rfl w1.heap.size _ _ _ (enc 4 n) rfl (own_lit w1 _ 4 _ (bv_enc4 n hn) (by rw [enc_length]) (by decide) (Nat.le_refl _) rfl) S _ _ _ bs rfl (hs.after (hb1.alloc hb1.size _)) (by rw [enc_length]; have := hml.out; omega) (by simp) ?_; intro A2 m2 c2 w2 hown2 hg2))
  have hb2 : Below w1.heap.size w1 w2 := ((Below.refl w1.heap.size w1).alloc (Nat.le_refl _) _).grown hg2 (by simp) (by simp)
  refine (getLong_any hown2.sl (by have := hown2.len; rw [List.length_append, enc_length] at this; have := hml.out; omega) rl HL.out).mono ?_
  rintro e w3 ⟨A3, m3, c3, rfl, hs3, hb3⟩
  go_wp2_with fail
  refine (getValue_any (hown2.after hb3).sl (by have := hown2.len; rw [List.length_append, enc_length] at this; have := hml.out; omega) rv HV.out).mono ?_
  rintro e w4 ⟨A4, m4, c4, A5, m5, c5, rfl, hs4, hs5, hb4⟩
  have hm2 : 2 ≤ m2 := by have := hown2.len; rw [List.length_append, enc_length] at this; omega
  have hcut := run_cut A2 m2 c2 2 .i64 hm2
  simp only [Int.cast_ofNat_Int] at hcut
  go_wp2_with fail
  have hs6 : Sl (fun b => w1.heap.size ≤ b) (w4.alloc (.cells #[.int .i64 (rval Val.none rv).kind, .slice A4 m4 c4] 24)) (cutA A2 c2 2) (m2 - 2) (c2 - 2) (enc 2 s ++ bs) := by
    have := ((hown2.after (seqB hb3 hb4)).sl.after (Below.alloc (Below.refl _ _) (Nat.le_refl _) (.cells #[.int .i64 (rval Val.none rv).kind, .slice A4 m4 c4] 24))).cut 2 hm2
    rw [enc4_drop, HS.out] at this
    exact this
  refine (getText_any hs6 (by have := hown2.len; rw [List.length_append, enc_length] at this; have := hml.out; omega) rt (by unfold getText; rw [getN_enc 2 s bs (by simpa using hs65)]; exact HT.out)).mono ?_
  rintro e w5 ⟨A6, m6, c6, rfl, hs7, hb5⟩
  have q0 : w5.cell? ⟨w4.heap.size, 0, none⟩ = some (.int .i64 (rval Val.none rv).kind) := keep_cell hb5 (by go_simp)
  have q1 : w5.cell? ⟨w4.heap.size, 1, none⟩ = some (.slice A4 m4 c4) := keep_cell hb5 (by go_simp)
  have hb5 : Below w4.heap.size w4 w5 := Below.trans (by repeat (first | exact Below.refl _ _ | assumption | refine Below.drew ?_ | refine below_drewN ?_ _ | refine Below.alloc ?_ (by simp) _ | refine Below.setCell ?_ (by simp) _)) (hb5.mono (by simp))
  have hbel : Below w.heap.size w w5 := seqB hb1 (seqB hb2 (seqB hb3 (seqB hb4 hb5)))
  have hcv1 := conv_sl (hs3.after (seqB hb4 hb5))
  have hcv2 := conv_sl (hs5.after hb5)
  have hcv3 := conv_sl (hs.after hbel)
  have hm6 := Lib.hid hs7.len
  have hm4 := Lib.hid hs4.len
  have hnum := Lib.hid (getNum_enc n bs hn)
  have hm0 := Lib.hid (show (bs.length : Int) = m by have := hml.out; omega)
  clear hs3 hs4 hs5 hs6 hs7 hown2 hg2 hs hcut
  -- the text
  have hT : (∃ x r, rt = .ok (x, r) ∧ (x.length : Int) = (s : Int) ∧ wrap64 ((s : Int) + (m6 : Int)) = (m : Int) ∧ s ≤ m) ∨ (rt = .error 10 ∧ m < s) := by
    rcases takeN_cases s bs with ⟨x, r, e, l1, l2, l3⟩ | ⟨hlt, e⟩
    · obtain rfl := HT.out.symm.trans e
      have h6 := hm6.out
      simp at h6
      have := hml.out
      exact .inl ⟨x, r, rfl, by omega, by unfold wrap64; omega, by omega⟩
    · have := hml.out
      exact .inr ⟨HT.out.symm.trans e, by omega⟩
  have hL : rl = if K < 0 then .error 11 else takeN K.toNat bs := by
    have := HL.out
    unfold getLong at this
    rw [hnum.out] at this
    rw [HKS.out]
    exact this.symm
  have hV : rv = if K = -1 then .ok (⟨0, []⟩, bs) else if K = -2 then .ok (⟨1, []⟩, bs) else if K < 0 then .error 11 else match takeN K.toNat bs with
    | .error e => .error e
    | .ok (x, r2) => .ok (⟨2, x⟩, r2) := by
    have := HV.out
    unfold getValue at this
    rw [hnum.out] at this
    rw [HKS.out]
    exact this.symm
  have hC : (K = -1 ∧ rl = .error 11 ∧ rv = .ok (⟨0, []⟩, bs)) ∨ (K = -2 ∧ rl = .error 11 ∧ rv = .ok (⟨1, []⟩, bs)) ∨ (K < -2 ∧ rl = .error 11 ∧ rv = .error 11) ∨ ((m : Int) < K ∧ rl = .error 10 ∧ rv = .error 10) ∨
      ∃ x r, 0 ≤ K ∧ K ≤ m ∧ rl = .ok (x, r) ∧ rv = .ok (⟨2, x⟩, r) ∧ (x.length : Int) = K ∧ (m4 : Int) = K ∧ x ++ r = bs := by
    by_cases k1 : K = -1
    · subst k1; exact .inl ⟨rfl, hL, hV⟩
    · by_cases k2 : K = -2
      · subst k2; exact .inr (.inl ⟨rfl, hL, hV⟩)
      · by_cases k3 : K < 0
        · rw [if_pos k3] at hL
          rw [if_neg k1, if_neg k2, if_pos k3] at hV
          exact .inr (.inr (.inl ⟨by omega, hL, hV⟩))
        · rw [if_neg k3] at hL
          rw [if_neg k1, if_neg k2, if_neg k3] at hV
          have := hml.out
          rcases takeN_cases K.toNat bs with ⟨x, r, e, l1, l2, l3⟩ | ⟨hlt, e⟩
          · rw [e] at hL hV
            subst hV
            have h4 := hm4.out
            simp at h4
            exact .inr (.inr (.inr (.inr ⟨x, r, by omega, by omega, hL, rfl, by omega, by omega, l3⟩)))
          · rw [e] at hL hV
            exact .inr (.inr (.inr (.inl ⟨by omega, hL, hV⟩)))
  clear hL hV
  rcases hT with ⟨x, r, rfl, t1, t2, t3⟩ | ⟨rfl, t3⟩
  all_goals
    rcases hC with ⟨rfl, rfl, rfl⟩ | ⟨rfl, rfl, rfl⟩ | ⟨k0, rfl, rfl⟩ | ⟨k0, rfl, rfl⟩ | ⟨y, z, k0, k1, rfl, rfl, k2, k3, k4⟩
  all_goals (try have hadd := add_str y z (by have h1 := congrArg List.length k4; rw [List.length_append] at h1; have := hml.out; omega); rw [k4] at hadd; have K4 := Lib.hid k4; clear k4)
  all_goals go_wp2_with fail
  all_goals exact (by go_ret; exact ⟨rfl, hbel⟩)

set_option maxRecDepth 100000 in
theorem primsTold_any {S : Nat → Prop} {A : Option Addr} {m c : Nat} {bs : B} {n : Nat} {w : World} (hs : Sl S w A m c bs) (hn : n < 4294967296) :
    Calls Try.prog 4 #[.int .u32 (n : Int), .slice A m c] w fun e w' => e = .returned (.bool true) ∧ Below w.heap.size w w' := by
  by_cases h : m ≤ 2000
  · exact primsTold_small hs h hn
  · have hmc := hs.cap
    have hcm := hs.capMax
    have hx : 2000 < m := by omega
    clear h hs
    go_enter Try.func4, Try.ntmps4
    go_wp2_with fail
    refine (awake2 _).mono ?_
    rintro e w1 ⟨rfl, hb1⟩
    go_wp2_with fail
    all_goals (first | (go_ret; exact ⟨rfl, hb1⟩) | (exfalso; simp at *; omega))
theorem primsTold_at {S : Nat → Prop} {A : Option Addr} {m c : Nat} {bs : B} {i : Int} {w : World} (hi : (Lit.int .u32 i).wf = true) (hs : Sl S w A m c bs) :
    Calls Try.prog 4 #[.int .u32 i, .slice A m c] w fun e w' => e = .returned (.bool true) ∧ Below w.heap.size w w' := by
  have h0 : 0 ≤ i ∧ i < 4294967296 := by
    simp [Lit.wf, IntKind.min, IntKind.max, IntKind.signed, IntKind.bits] at hi
    omega
  have e : i = ((i.toNat : Nat) : Int) := by omega
  have := primsTold_any (n := i.toNat) hs (by omega)
  rw [← e] at this
  exact this
end Go.Proofs.Sb
