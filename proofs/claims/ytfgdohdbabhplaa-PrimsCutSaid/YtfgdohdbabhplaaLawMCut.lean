/- The walk over signalboxlaw03.MapsCut: true at every input, and nothing that was there has turned. Conditions: each value up to 2^20 bytes. -/
import Derived.Test.YtfgdohdbabhplaaAwake3
import Derived.Test.YtfgdohdbabhplaaLaws3
import Derived.Test.YtfgdohdbabhplaaPlaine
import Derived.Laws.BitsLemmas
set_option linter.unusedVariables false
set_option linter.unusedSimpArgs false
namespace Go
theorem i64_and65535 (n : Int) : bits .and .i64 n 65535 = n % 65536 := by
  have h127 : (BitVec.ofInt 64 65535).toNat = 2 ^ 16 - 1 := by decide
  have key : (BitVec.ofInt 64 n &&& BitVec.ofInt 64 65535).toNat = (n % ((2 ^ 64 : Nat) : Int)).toNat % 2 ^ 16 := by
    rw [BitVec.toNat_and, BitVec.toNat_ofInt, h127, Nat.and_two_pow_sub_one_eq_mod]
  show IntKind.i64.wrap ((BitVec.ofInt 64 n &&& BitVec.ofInt 64 65535).toNat : Nat) = n % 65536
  rw [key, IntKind.wrap_i64]
  omega
end Go
namespace Go.Proofs.Sb
open Go.RowKit _root_.Sb

theorem and_ex (i : Int) : ∃ k : Nat, k < 65536 ∧ bits .and .i64 i 65535 = (k : Int) := ⟨(i % 65536).toNat, by omega, by rw [i64_and65535]; omega⟩
/-- b[:k] of a part of a number -/
theorem run_headm (A : Option Addr) (n c k : Nat) (hn : 0 < n) (hc : n ≤ c) (w : World) :
    (Instr.slice 22 (.slice A n c) none (some (.int .i64 ((k : Int) % (n : Int)))) none).run Try.prog w = .ok (.slice A (k % n) c) w := by
  have h := run_head A n c (k % n) .i64 (by have := Nat.mod_lt k hn; omega) w
  rw [Int.natCast_emod] at h
  exact h

set_option maxHeartbeats 8000000 in
set_option maxRecDepth 100000 in
theorem mapsCut_any {S S2 S3 S4 : Nat → Prop} {A Ap Ae : Option Addr} {n c np cp ne ce : Nat} {l : List B} {p : List (B × B)} {es : List (B × Val)} {i : Int} {w : World} (hl : Arr 1 strP S w A n c l) (hp : Arr 2 pairP S3 w Ap np cp p) (he : Arr 3 (entryP S2 w) S4 w Ae ne ce es) (hv : ∀ x ∈ es, x.2.bytes.length ≤ 1048576) :
    Calls Try.prog 13 #[.slice A n c, .slice Ap np cp, .slice Ae ne ce, .int .i64 i] w fun e w' => e = .returned (.bool true) ∧ Below w.heap.size w w' := by
  have hcap := hl.cap
  have hcm := hl.capMax
  have hpcap := hp.cap
  have hpcm := hp.capMax
  have hecap := he.cap
  have hecm := he.capMax
  have hlen := Lib.hid hl.len
  have hplen := Lib.hid hp.len
  have helen := Lib.hid he.len
  have HL := Lib.hid hl.lt; clear hl
  have HP := Lib.hid hp.lt; clear hp
  have HE := Lib.hid he.lt; clear he
  have HV := Lib.hid hv; clear hv
  by_cases hbig : 50 < n
  · go_enter Try.func13, Try.ntmps13
    go_wp2_with fail
    refine (awake3 _).mono ?_
    rintro e w1 ⟨rfl, hb1⟩
    go_wp2_with fail
    go_ret
    exact ⟨rfl, hb1⟩
  · by_cases hbig2 : 50 < np
    · go_enter Try.func13, Try.ntmps13
      go_wp2_with fail
      refine (awake3 _).mono ?_
      rintro e w1 ⟨rfl, hb1⟩
      go_wp2_with fail
      go_ret
      exact ⟨rfl, hb1⟩
    · by_cases hbig3 : 50 < ne
      · go_enter Try.func13, Try.ntmps13
        go_wp2_with fail
        refine (awake3 _).mono ?_
        rintro e w1 ⟨rfl, hb1⟩
        go_wp2_with fail
        go_ret
        exact ⟨rfl, hb1⟩
      · obtain ⟨kk, hkk, hand⟩ := and_ex i
        have HAND := Lib.hid hand; clear hand
        obtain ⟨rt, hrt⟩ : ∃ r, texts l = r := ⟨_, rfl⟩
        have HT := Lib.hid hrt; clear hrt
        obtain ⟨rp, hrp⟩ : ∃ r, putL pairW p = r := ⟨_, rfl⟩
        have HQ := Lib.hid hrp; clear hrp
        obtain ⟨re, hre⟩ : ∃ r, putL entryW es = r := ⟨_, rfl⟩
        have HR := Lib.hid hre; clear hre
        go_enter Try.func13, Try.ntmps13
        go_wp2_with fail
        refine (awake3 _).mono ?_
        rintro e w1 ⟨rfl, hb1⟩
        have hz1 := hb1.size
        go_wp2_with fail
        refine (texts_any (HL.out.after hb1) rt HT.out).mono ?_
        rintro e w2 ⟨A3, m3, c3, rfl, ho3, hb2⟩
        have hbel2 : Below w.heap.size w w2 := Below.trans hb1 (hb2.mono hz1)
        have hz2 := hbel2.size
        go_wp2_with fail
        refine (pairs_any (M := 131074) (HP.out.after hbel2) (fun x _ b hb => pairW_len hb) (by intro; have := hplen.out; omega) rp HQ.out).mono ?_
        rintro e w3 ⟨A5, m5, c5, rfl, ho5, hb3⟩
        have hbel3 : Below w.heap.size w w3 := Below.trans hbel2 (hb3.mono hz2)
        have hz3 := hbel3.size
        go_wp2_with fail
        refine (entries_any (M := 1114117) (entries_move HE.out hbel3) (fun x hx => by have := HV.out x hx; omega) (fun x hx b hb => by have := entryW_len hb; have := HV.out x hx; omega) (by intro; have := helen.out; omega) re HR.out).mono ?_
        rintro e w4 ⟨A7, m7, c7, rfl, ho7, hb4⟩
        have hbel4 : Below w.heap.size w w4 := Below.trans hbel3 (hb4.mono hz3)
        have hz4 := hbel4.size
        cases rt with
        | error et =>
          have hne : et ≠ 0 := texts_ne HT.out
          have hne2 : (et != 0) = true := by simpa using hne
          go_wp2_with fail
          go_ret
          exact ⟨rfl, hbel4⟩
        | ok xb =>
          cases rp with
          | error ep =>
            have hne : ep ≠ 0 := putL_ne (fun _ _ h => pairW_ne h) HQ.out
            have hne2 : (ep != 0) = true := by simpa using hne
            go_wp2_with fail
            go_ret
            exact ⟨rfl, hbel4⟩
          | ok yb =>
            cases re with
            | error ee =>
              have hne : ee ≠ 0 := putL_ne (fun _ _ h => entryW_ne h) HR.out
              have hne2 : (ee != 0) = true := by simpa using hne
              go_wp2_with fail
              go_ret
              exact ⟨rfl, hbel4⟩
            | ok zb =>
              have ho3' := ho3.after (seqB hb3 hb4)
              have ho5' := ho5.after hb4
              simp only [werr_ok, wval_ok] at ho3' ho5' ho7 ⊢
              clear ho3 ho5
              have hm3 : 0 < m3 := by
                obtain ⟨_, y, _, e⟩ := putL_parts HT.out
                have h1 := congrArg List.length e
                rw [List.length_append, enc_length] at h1
                have := ho3'.len
                omega
              have hm5 : 0 < m5 := by
                obtain ⟨_, y, _, e⟩ := putL_parts HQ.out
                have h1 := congrArg List.length e
                rw [List.length_append, enc_length] at h1
                have := ho5'.len
                omega
              have hm7 : 0 < m7 := by
                obtain ⟨_, y, _, e⟩ := putL_parts HR.out
                have h1 := congrArg List.length e
                rw [List.length_append, enc_length] at h1
                have := ho7.len
                omega
              have hs3 := Lib.hid ho3'.sl
              have hs5 := Lib.hid ho5'.sl
              have hs7 := Lib.hid ho7.sl
              have h3c := hs3.out.cap
              have h5c := hs5.out.cap
              have h7c := hs7.out.cap
              have h3m := hs3.out.capMax
              have h5m := hs5.out.capMax
              have h7m := hs7.out.capMax
              have h3l : m3 ≤ 140737488355328 := by have := (texts_len HT.out).1; have := hlen.out; have := hs3.out.len; omega
              have h5l : m5 ≤ 140737488355328 := by
                have := (putL_len (M := 131074) (fun x _ b hb => pairW_len hb) HQ.out).2
                have h2 := hplen.out
                have h4 := hs5.out.len
                have : p.length * 131074 ≤ 50 * 131074 := Nat.mul_le_mul_right _ (by omega)
                omega
              have h7l : m7 ≤ 140737488355328 := by
                have := (putL_len (M := 1114117) (fun x hx b hb => by have := entryW_len hb; have := HV.out x hx; omega) HR.out).2
                have h2 := helen.out
                have h4 := hs7.out.len
                have : es.length * 1114117 ≤ 50 * 1114117 := Nat.mul_le_mul_right _ (by omega)
                omega
              have HC3 : Hid (getTexts (xb.take (kk % m3)) = .error 10) := texts_cut l xb _ trivial HT.out (by have := Nat.mod_lt kk hm3; have := hs3.out.len; omega)
              have HC5 : Hid (getL pairR (yb.take (kk % m5)) = .error 10) := pairs_cut p yb _ trivial HQ.out (by have := Nat.mod_lt kk hm5; have := hs5.out.len; omega)
              have HC7 : Hid (getL entryR (zb.take (kk % m7)) = .error 10) := entries_cut es zb _ (fun x hx => by have := HV.out x hx; unfold val31; omega) HR.out (by have := Nat.mod_lt kk hm7; have := hs7.out.len; omega)
              have hand := HAND.out
              have hcut3 := run_headm A3 m3 c3 kk hm3 h3c
              have hcut5 := run_headm A5 m5 c5 kk hm5 h5c
              have hcut7 := run_headm A7 m7 c7 kk hm7 h7c
              clear ho3' ho5' ho7
              go_wp2_with fail
              refine (getTexts_any (hs3.out.take (kk % m3) (by have := Nat.mod_lt kk hm3; omega)) (by have := Nat.mod_lt kk hm3; omega) _ HC3.out).mono ?_
              rintro e w5 ⟨A8, m8, c8, A9, m9, c9, rfl, ho8, hs9, hb5⟩
              have hbel5 : Below w.heap.size w w5 := Below.trans hbel4 (hb5.mono hz4)
              have hz5 := hbel5.size
              clear ho8 hs9
              go_wp2_with fail
              refine (getPairs_any ((hs5.out.take (kk % m5) (by have := Nat.mod_lt kk hm5; omega)).after hb5) (by have := Nat.mod_lt kk hm5; omega) _ HC5.out).mono ?_
              rintro e w6 ⟨A10, m10, c10, A11, m11, c11, rfl, ho10, hs11, hb6⟩
              have hbel6 : Below w.heap.size w w6 := Below.trans hbel5 (hb6.mono hz5)
              have hz6 := hbel6.size
              clear ho10 hs11
              go_wp2_with fail
              refine (getEntries_any ((hs7.out.take (kk % m7) (by have := Nat.mod_lt kk hm7; omega)).after (seqB hb5 hb6)) (by have := Nat.mod_lt kk hm7; omega) _ HC7.out).mono ?_
              rintro e w7 ⟨A12, m12, c12, A13, m13, c13, rfl, ho12, hs13, hb7⟩
              have hbel7 : Below w.heap.size w w7 := Below.trans hbel6 (hb7.mono hz6)
              clear ho12 hs13
              simp only [rerr_error]
              go_wp2_with fail
              go_ret
              exact ⟨by simp, hbel7⟩
end Go.Proofs.Sb
