/- The walk over signalboxlaw09.ReplySupports: true at every input, and nothing that was there has turned. Conditions: lengths up to 2^20. (written by gen_lawys.py) -/
import Derived.Test.YtfeeeighafflnaaAwake9
import Derived.Test.YtfeeeighafflnaaSlight9
import Derived.Deep.CutBlock
import Derived.Deep.DeepCutAuto
import Derived.Deep.QuietTactic
import Derived.BigQuiet
set_option linter.unusedVariables false
set_option linter.unusedSimpArgs false
namespace Sb
open Go.Proofs.Sb
theorem werr_err (e : Int) : werr (.error e) = e := rfl
def supQ (l : List (B × List B)) : Rp := { Rp.of 6 with support := l }
def autQ (x : B) : Rp := { Rp.of 3 with text := x }
def tokQ (v : Val) : Rp := { Rp.of 14 with token := v }
theorem rpA_of {op : Nat} (h : op < 256) : RpA 1048576 (Rp.of op) :=
  ⟨h, (rpB_of h).flt, Nat.zero_le _, strOk_nil, strOk_nil, (rpB_of h).port, Nat.zero_le _, chgB_none, (rpB_of h).rkind, chgB_none, Nat.zero_le _, Nat.zero_le _, Nat.zero_le _, Nat.zero_le _, Nat.zero_le _, Nat.zero_le _, Nat.zero_le _, Nat.zero_le _, fun y hy => by cases hy⟩
theorem supA {l : List (B × List B)} (hn : l.length ≤ 1048576) (hl : ∀ y ∈ l, y.2.length ≤ 1048576) : RpA 1048576 (supQ l) := { rpA_of (op := 6) (by decide) with nsu := hn, sup := hl }
theorem autA {x : B} (h : x.length ≤ 1048576) : RpA 1048576 (autQ x) := { rpA_of (op := 3) (by decide) with text := h }
theorem tokA {v : Val} (h : v.bytes.length ≤ 1048576) : RpA 1048576 (tokQ v) := { rpA_of (op := 14) (by decide) with token := h }
theorem autS (x : B) : RpS (autQ x) := ⟨(by decide : (0 : Nat) < 100), (by decide : (0 : Nat) < 1000)⟩
theorem tokS (v : Val) : RpS (tokQ v) := ⟨(by decide : (0 : Nat) < 100), (by decide : (0 : Nat) < 1000)⟩
theorem aut_put {x : B} (h : x.length ≤ 1000) : ∃ b, putRp (autQ x) = .ok b := by
  refine ⟨enc 2 x.length ++ x, ?_⟩
  show text x = _
  unfold text
  rw [if_neg (by omega)]
theorem tok_put {v : Val} (h0 : 0 ≤ v.kind) (h2 : v.kind ≤ 2) : ∃ b, putRp (tokQ v) = .ok b := by
  show ∃ b, value v = .ok b
  unfold value
  by_cases k0 : v.kind = 0
  · rw [if_pos k0]; exact ⟨_, rfl⟩
  by_cases k1 : v.kind = 1
  · rw [if_neg k0, if_pos k1]; exact ⟨_, rfl⟩
  rw [if_neg k0, if_neg k1, if_pos (by omega)]; exact ⟨_, rfl⟩
theorem norm_kind (v : Val) : v.norm.kind = v.kind := by unfold Val.norm; split <;> rfl
end Sb
namespace Go.Proofs.Sb
open Go.RowKit _root_.Sb
theorem goesMul {l : List (B × List B)} {A : Option Addr} {n c : Nat} : Goes fun S w => Arr 2 (multiP S w) S w A n c l :=
  ⟨fun h hs hk => (goesArr.keep h hs hk).imp fun x _ v hp => hp.imp fun _ _ _ _ h => goesArr.keep h hs hk, fun h hS => (goesArr.mono h hS).imp fun x _ v hp => hp.imp fun _ _ _ _ h => goesArr.mono h hS⟩
def supT (A : Option Addr) (n c : Nat) : Trs := { Trs.z with su := ⟨A, n, c⟩ }
def tokT (A : Option Addr) (n c : Nat) : Trs := { Trs.z with tk := ⟨A, n, c⟩ }
set_option maxHeartbeats 2000000 in
set_option maxRecDepth 100000 in
theorem replySupports_any {S S2 : Nat → Prop} {A At : Option Addr} {n c nt ct : Nat} {l : List (B × List B)} {tx : B} {v : Val} {w : World} (hs : Arr 2 (multiP S w) S w A n c l) (hn : n ≤ 1048576) (hl : ∀ y ∈ l, y.2.length ≤ 1048576) (htx : tx.length ≤ 1048576) (hv : Sl S2 w At nt ct v.bytes) (hvl : v.bytes.length ≤ 1048576) :
    Calls Try.prog 7 #[.slice A n c, .string (str tx), .agg #[.int .i64 v.kind, .slice At nt ct]] w fun e w' => e = .returned (.bool true) ∧ Below w.heap.size w w' := by
  have hln := hs.len
  have hcp := hs.cap
  have hcm := hs.capMax
  have HLN := Lib.hid hln; clear hln
  have HP := Lib.hid ((goesRp (x := supQ l) (t := supT A n c)).mono (S' := fun b => S b ∧ b < w.heap.size) (⟨Arr.nil, Sl.nil, hs, Sl.nil, Sl.nil, Arr.nil, Arr.nil, Sl.nil, Sl.nil⟩ : RpR S w (supQ l) (supT A n c)) fun b h1 h2 => ⟨h1, h2⟩); clear hs
  have HV := Lib.hid hv.lt
  have hlt := hv.len; clear hv
  have HLT := Lib.hid hlt; clear hlt
  have HLL := Lib.hid hl; clear hl
  have htl : nt ≤ 1048576 := by have := HLT.out; omega
  obtain ⟨kv, hkv⟩ : ∃ k, v.kind = k := ⟨_, rfl⟩
  rw [hkv]
  have HKV := Lib.hid hkv; clear hkv
  go_enter Try.func7, Try.ntmps7
  go_wp2_with fail
  obtain ⟨w1, hw1⟩ : ∃ w1, w1 = w.alloc (.cells #[.int .i64 kv, .slice At nt ct] 31) := ⟨_, rfl⟩
  rw [← hw1]
  have hB1 : Below w.heap.size w w1 := by rw [hw1]; exact (Below.refl _ _).alloc (Nat.le_refl _) _
  have hbx : Bx (fun b => b = w.heap.size) w1 w.heap.size [.int .i64 kv, .slice At nt ct] := by
    rw [hw1]; exact Bx.alloc w #[.int .i64 kv, .slice At nt ct] 31 (S := fun b => b = w.heap.size) rfl rfl
  have HT1 := Lib.hid hbx; clear hbx hw1
  have HB1 := Lib.hid hB1; clear hB1
  refine (awake9 _).mono ?_
  rintro e w2 ⟨rfl, hb2⟩
  have HB2 := Lib.hid (HB1.out.trans (hb2.mono HB1.out.size))
  have HT2 := Lib.hid (goesBx.after HT1.out hb2)
  clear hb2 HT1
  go_upto_region 5 with (first | (refine wpList_built (by rfl) 39 _ (by rfl) (rpT (supQ l) (supT A n c)).toArray (by kernel_rfl) ?_) | (refine wpList_store_newB (by rfl) 39 _ _ (by rfl) _ _ _ _ (by rfl) (by rfl) (by simp) (by rfl) (by kernel_rfl) (by rfl) (by rfl) ?_; intro w3 hb3 hz3 hx3; have HB3 := Lib.hid (HB2.out.trans (hb3.mono HB2.out.size)); have HT3 := Lib.hid (goesBx.after HT2.out hb3); have HX3 : Hid (Bx (fun b => b = w2.heap.size) w3 w2.heap.size (rpT (supQ l) (supT A n c))) := Lib.hid hx3; clear hb3 hz3 hx3 HT2))
  go_wp2_with (first | (refine wpList_loadB HX3.out (by rfl) 39 _ (by rfl) (by rfl) _ Try.underlying39 rfl (by kernel_rfl) ?_))
  refine (slight9_any (x := supQ l) (t := supT A n c) (goesRp.after HP.out HB3.out) (supA (by have := HLN.out; omega) HLL.out)).mono ?_
  rintro e w4 ⟨β, rfl, hβ, hb4⟩
  have HB4 := Lib.hid (HB3.out.trans (hb4.mono HB3.out.size))
  have HT4 := Lib.hid (goesBx.after HT3.out hb4)
  have HX4 := Lib.hid (goesBx.after HX3.out hb4)
  have HSA : Hid (RpA 1048576 (supQ l)) := Lib.hid (supA (by have := HLN.out; omega) HLL.out)
  have t0 := HT4.out.c 0 _ rfl
  have t1 := HT4.out.c 1 _ rfl
  have tl := HT4.out.lt
  clear hb4 HT3 HX3
  have HBE := Lib.hid hβ; clear hβ
  cases β with
  | false =>
    go_wp2_with fail
    go_ret
    exact ⟨rfl, HB4.out⟩
  | true =>
    have HL := Lib.hid (HBE.out rfl); clear HBE
    by_cases h1 : 1000 < tx.length
    · go_wp2_with fail
      go_ret
      exact ⟨rfl, HB4.out⟩
    by_cases h2 : 1000 < nt
    · go_wp2_with fail
      go_ret
      exact ⟨rfl, HB4.out⟩
    by_cases h3 : kv < 0
    · go_wp2_with fail
      go_ret
      exact ⟨rfl, HB4.out⟩
    by_cases h4 : 2 < kv
    · go_wp2_with fail
      go_ret
      exact ⟨rfl, HB4.out⟩
    go_upto_region 8 with fail
    clear t0 t1
    obtain ⟨r, hr⟩ : ∃ r, putRp (supQ l) = r := ⟨_, rfl⟩
    have HR := Lib.hid hr; clear hr
    go_wp2_with (first | (refine wpList_loadB HX4.out (by rfl) 39 _ (by rfl) (by rfl) _ Try.underlying39 rfl (by kernel_rfl) ?_))
    refine (rPut9_any (x := supQ l) (t := supT A n c) (goesRp.after HP.out HB4.out) (small_B HSA.out HL.out) (small_Q HL.out) r HR.out).mono ?_
    rintro e w5 ⟨A5, n5, c5, rfl, hs5, hb5⟩
    have HS5 := Lib.hid hs5
    have HB5 := Lib.hid (HB4.out.trans (hb5.mono HB4.out.size))
    have HT5 := Lib.hid (goesBx.after HT4.out hb5)
    have hl5 := hs5.len
    clear hs5 hb5 HX4
    cases r with
    | error e =>
      obtain rfl : n5 = 0 := hl5
      have hne : (e != 0) = true := by simpa using putRp_ne HR.out
      rw [werr_err]
      go_wp2_with fail
      refine (rGet9_any HS5.out (by decide) _ rfl).mono ?_
      rintro e w6 ⟨t6, rfl, hq6, hb6⟩
      have HB6 := Lib.hid (HB5.out.trans (hb6.mono HB5.out.size))
      clear hq6 hb6
      obtain ⟨vs6, hvs6⟩ : ∃ vs6, vs6 = rpT (rpOf (getRp 6 (wval (.error e)))) t6 := ⟨_, rfl⟩
      have hvl6 : vs6.length = 34 := by rw [hvs6]; rfl
      have hone6 : vs6.all (·.oneCell') = true := by rw [hvs6]; rfl
      rw [← hvs6]
      clear hvs6
      go_wp2_with (first | (refine wpList_store_newB (by rfl) 39 _ _ (by rfl) _ _ _ _ (by rfl) (by rfl) (by simp) (by rfl) (by rw [hvl6]; kernel_rfl) (by rw [hvl6]; rfl) hone6 ?_; intro w7 hb7 hz7 hx7; clear hz7 hx7; have HB7 := Lib.hid (HB6.out.trans (hb7.mono HB6.out.size)); clear hb7))
      go_ret
      exact ⟨rfl, HB7.out⟩
    | ok cb =>
      rw [werr_ok]
      have hle := small_len HSA.out HL.out
      rw [HR.out] at hle
      have hle2 : cb.length ≤ 2000000000 := hle
      have HS5' : Hid (Sl (fun b => w4.heap.size ≤ b) w5 A5 n5 c5 cb) := HS5
      have hl5' : n5 = cb.length := hl5
      have hl5'' : n5 ≤ 140737488355328 := by omega
      clear hle hle2 HS5 hl5 hl5'
      obtain ⟨y, hy, hbp⟩ := rp_back (small_B HSA.out HL.out) (by have := HSA.out.token; unfold val31; omega) HR.out
      have hys : y.support = l := hbp.sup rfl
      have HY := Lib.hid hy; clear hy hbp
      go_wp2_with fail
      refine (rGet9_any (op := 6) HS5'.out hl5'' (.ok y) HY.out).mono ?_
      rintro e w6 ⟨t6, rfl, hq6, hb6⟩
      have HB6 := Lib.hid (HB5.out.trans (hb6.mono HB5.out.size))
      have HT6 := Lib.hid (goesBx.after HT5.out hb6)
      have hsu : Arr 2 (multiP (fun b => b < w6.heap.size) w6) (fun b => b < w6.heap.size) w6 t6.su.a t6.su.n t6.su.c l := hys ▸ (goesRp.mono (S' := fun b => b < w6.heap.size) hq6 fun b _ h => h).su
      rw [show rpOf (.ok y) = y from rfl, show erP (.ok y) = 0 from rfl]
      obtain ⟨vs6, hvs6⟩ : ∃ vs6, vs6 = rpT y t6 := ⟨_, rfl⟩
      have hvl6 : vs6.length = 34 := by rw [hvs6]; rfl
      have hone6 : vs6.all (·.oneCell') = true := by rw [hvs6]; rfl
      have hv14 : vs6[14]? = some (.slice t6.su.a t6.su.n t6.su.c) := by rw [hvs6]; rfl
      rw [← hvs6]
      clear hvs6 hys
      obtain ⟨fa6, fi6, ⟨A6, n6, c6⟩, tk6, ad6, sc6, cg6, id6, rs6⟩ := t6
      obtain rfl : n6 = n := by have := hsu.len; have := HLN.out; dsimp only at *; omega
      have hcap6 : n6 ≤ c6 := hsu.cap
      have hcm6 : c6 ≤ maxLen := hsu.capMax
      dsimp only at hv14 hsu
      have HSU := Lib.hid hsu
      clear hq6 hb6 hsu HS5' hl5'' HT5
      go_upto_region 14 with (first | (refine wpList_store_newB (by rfl) 39 _ _ (by rfl) _ _ _ _ (by rfl) (by rfl) (by simp) (by rfl) (by rw [hvl6]; kernel_rfl) (by rw [hvl6]; rfl) hone6 ?_; intro w7 hb7 hz7 hx7; have HB7 := Lib.hid (HB6.out.trans (hb7.mono HB6.out.size)); have HT7 := Lib.hid (goesBx.after HT6.out hb7); have y14 := hx7.c 14 _ hv14; have hyl : w6.heap.size < w7.heap.size := (by omega); have HSU7 : Hid (Arr 2 (multiP (fun b => b < w6.heap.size) w7) (fun b => b < w6.heap.size) w7 A6 n6 c6 l) := Lib.hid ((goesMul (l := l) (A := A6) (n := n6) (c := c6)).after HSU.out hb7); clear hb7 hz7 hx7 HB6 HT6 HSU))
      obtain ⟨Y, hY⟩ : ∃ Y, Y = w6.heap.size := ⟨_, rfl⟩
      rw [← hY] at y14 hyl HSU7 ⊢
      clear hY
      go_wp2_with fail
      go_loopw [14] (fun i wr => ∃ k : Nat, k ≤ n6 ∧ i = .int .i64 (k : Nat) ∧ Hid (Below w7.heap.size w7 wr)) (fun i _ => n6 - (intOf i).toNat)
      case atStart => exact ⟨0, by omega, rfl, Lib.hid (Below.refl _ _)⟩
      case round =>
        obtain ⟨k, hk, rfl, HBr⟩ := hrel
        have HBw := Lib.hid (HB7.out.trans (HBr.out.mono HB7.out.size))
        have hsr := HBr.out.size
        replace y14 := kcell HBr.out y14
        by_cases hlt : k < n6
        · obtain ⟨x, hx⟩ : ∃ x, l[k]? = some x := ⟨_, List.getElem?_eq_getElem (by have := HLN.out; omega)⟩
          obtain ⟨b1, o1, rfl, hS1, hz1, HC1⟩ := (goesRp.after HP.out HBw.out).su.at (by decide) (by show 0 < n6; omega)
          obtain ⟨v1, _, hp1, hv1⟩ := HC1 k x hx
          obtain ⟨A7, n7, c7, rfl, hxl, hvl1⟩ := hp1
          have e0 := hv1 0 _ rfl
          have e1 := hv1 1 _ rfl
          obtain ⟨b2, o2, rfl, hS2, hz2, HC2⟩ := ((goesMul (l := l)).after HSU7.out HBr.out).at (by decide) (by omega)
          obtain ⟨v2, _, hp2, hv2⟩ := HC2 k x hx
          obtain ⟨A8, n8, c8, rfl, _, hvl2⟩ := hp2
          have z0 := hv2 0 _ rfl
          have z1 := hv2 1 _ rfl
          simp only [Nat.add_zero] at e0 z0
          have H7 := Lib.hid hvl1
          have H8 := Lib.hid hvl2
          obtain rfl : n7 = n8 := by have := hvl1.len; have := hvl2.len; omega
          have hx7 : n7 ≤ 1048576 := by have := hvl1.len; have := HLL.out x (List.mem_of_getElem? hx); omega
          have hc7 := hvl1.cap
          have hc8 := hvl2.cap
          have hm7 := hvl1.capMax
          have hm8 := hvl2.capMax
          have HXL := Lib.hid hvl1.len
          clear hv1 hv2 HC1 HC2 hvl1 hvl2 hx hz1 hz2 hS1 hS2
          have q1 : (k : Int) < (n6 : Int) := by omega
          go_wp2_with fail
          go_quiet (fail)
          obtain ⟨w8, hw8⟩ : ∃ w8, w8 = wr.drewN nq := ⟨_, rfl⟩
          have hdr : Below wr.heap.size wr w8 := by rw [hw8]; exact below_drewN (Below.refl _ _) _
          rw [← hw8]
          have HB8 := Lib.hid (HBr.out.trans (hdr.mono HBr.out.size))
          have H7' := Lib.hid (goesArr.after H7.out hdr)
          have H8' := Lib.hid (goesArr.after H8.out hdr)
          replace y14 := kcell hdr y14
          replace e1 := kcell hdr e1
          replace z1 := kcell hdr z1
          clear hdr hw8 e0 z0 H7 H8
          go_wp2_with fail
          go_loopw [15] (fun i wq => ∃ r : Nat, r ≤ n7 ∧ i = .int .i64 (r : Nat) ∧ Hid (Below w8.heap.size w8 wq)) (fun i _ => n7 - (intOf i).toNat)
          case atStart => exact ⟨0, by omega, rfl, Lib.hid (Below.refl _ _)⟩
          case round =>
            obtain ⟨r, hr, rfl, HBq⟩ := hrel
            obtain ⟨wq, hwq⟩ : ∃ wq, wq = wr := ⟨_, rfl⟩
            subst hwq
            have HBq7 := Lib.hid (HB8.out.trans (HBq.out.mono HB8.out.size))
            replace y14 := kcell HBq.out y14
            replace e1 := kcell HBq.out e1
            replace z1 := kcell HBq.out z1
            by_cases hlr : r < n7
            · obtain ⟨s, hs⟩ : ∃ s, x.2[r]? = some s := ⟨_, List.getElem?_eq_getElem (by have := HXL.out; omega)⟩
              obtain ⟨b3, o3, rfl, hS3, hz3, HC3⟩ := (goesArr.after H7'.out HBq.out).at (by decide) (by omega)
              obtain ⟨v3, _, hp3, hv3⟩ := HC3 r s hs
              obtain ⟨rfl, hsl⟩ := hp3
              have k0 := hv3 0 _ rfl
              obtain ⟨b6, o6, rfl, hS6, hz6, HC6⟩ := (goesArr.after H8'.out HBq.out).at (by decide) (by omega)
              obtain ⟨v6, _, hp6, hv6⟩ := HC6 r s hs
              obtain ⟨rfl, _⟩ := hp6
              have j0 := hv6 0 _ rfl
              simp only [Nat.mul_one, Nat.add_zero] at k0 j0
              clear hv3 hv6 HC3 HC6 hs hS3 hS6 hz3 hz6
              have q3 : (r : Int) < (n7 : Int) := by omega
              go_wp2_with fail
              go_quiet (fail)
              clear k0 j0 q3
              obtain ⟨w9, hw9⟩ : ∃ w9, w9 = wq.drewN nq := ⟨_, rfl⟩
              have hdr : Below wq.heap.size wq w9 := by rw [hw9]; exact below_drewN (Below.refl _ _) _
              rw [← hw9]
              have HBd := Lib.hid (HBq.out.trans (hdr.mono HBq.out.size))
              clear hdr hw9
              go_wp2_with fail
              refine ⟨⟨r + 1, by omega, by go_num, HBd⟩, by simp [intOf]; omega⟩
            · obtain rfl : n7 = r := by omega
              go_wp2_with fail
              refine ⟨⟨k + 1, by omega, by go_num, HBq7⟩, by simp [intOf]; omega⟩
        · obtain rfl : k = n6 := by omega
          -- MARK
          obtain ⟨wo, hwo⟩ : ∃ wo, wo = wr := ⟨_, rfl⟩
          subst hwo
          have HTr := Lib.hid (goesBx.after HT7.out HBr.out)
          clear y14 hyl HSU7
          obtain ⟨c1b, hc1⟩ := aut_put (x := tx) (by omega)
          obtain ⟨y1, hy1, hbp1⟩ := rp_back (small_B (autA htx) (autS tx)) (by have := (autA htx).token; unfold val31; omega) hc1
          have hl1 := small_len (autA htx) (autS tx)
          rw [hc1] at hl1
          have hl1' : c1b.length ≤ 2000000000 := hl1
          have ht1 : y1.text = tx := hbp1.text rfl
          have HC1 := Lib.hid hc1; have HY1 := Lib.hid hy1; have HT1' := Lib.hid ht1
          clear hc1 hy1 hbp1 hl1 ht1
          obtain ⟨c2b, hc2⟩ := tok_put (v := v) (by rw [HKV.out]; omega) (by rw [HKV.out]; omega)
          obtain ⟨y2, hy2, hbp2⟩ := rp_back (small_B (tokA hvl) (tokS v)) (by unfold val31; show v.bytes.length < _; omega) hc2
          have hl2 := small_len (tokA hvl) (tokS v)
          rw [hc2] at hl2
          have hl2' : c2b.length ≤ 2000000000 := hl2
          have ht2 : y2.token = v.norm := hbp2.token (.inl rfl)
          have HC2 := Lib.hid hc2; have HY2 := Lib.hid hy2; have HT2' := Lib.hid ht2
          clear hc2 hy2 hbp2 hl2 ht2
          go_wp2_with (first | (refine wpList_built (by rfl) 39 _ (by rfl) (rpT (autQ tx) .z).toArray (by kernel_rfl) ?_))
          refine (rPut9_any (S := fun _ => False) (x := autQ tx) (t := .z) ⟨Arr.nil, Sl.nil, Arr.nil, Sl.nil, Sl.nil, Arr.nil, Arr.nil, Sl.nil, Sl.nil⟩ (small_B (autA htx) (autS tx)) (small_Q (autS tx)) (.ok c1b) HC1.out).mono ?_
          rintro e w10 ⟨A10, n10, c10, rfl, hs10, hb10⟩
          rw [werr_ok]
          have HB10 := Lib.hid (HBw.out.trans (hb10.mono HBw.out.size))
          have HT10 := Lib.hid (goesBx.after HTr.out hb10)
          have hl10 : n10 ≤ 140737488355328 := by have := hs10.len; rw [wval_ok] at this; omega
          have HS10 : Hid (Sl (fun b => wo.heap.size ≤ b) w10 A10 n10 c10 c1b) := Lib.hid hs10
          clear hs10 hb10 hl1' HTr
          go_wp2_with fail
          refine (rGet9_any (op := 3) HS10.out hl10 (.ok y1) HY1.out).mono ?_
          rintro e w11 ⟨t11, rfl, hq11, hb11⟩
          have HB11 := Lib.hid (HB10.out.trans (hb11.mono HB10.out.size))
          have HT11 := Lib.hid (goesBx.after HT10.out hb11)
          rw [show rpOf (.ok y1) = y1 from rfl, show erP (.ok y1) = 0 from rfl]
          obtain ⟨vs11, hvs11⟩ : ∃ vs11, vs11 = rpT y1 t11 := ⟨_, rfl⟩
          have hvl11 : vs11.length = 34 := by rw [hvs11]; rfl
          have hone11 : vs11.all (·.oneCell') = true := by rw [hvs11]; rfl
          have hv13 : vs11[13]? = some (.string (str tx)) := by rw [hvs11, ← HT1'.out]; rfl
          rw [← hvs11]
          clear hvs11 hq11 hb11 HS10 hl10 HT10
          go_upto_region 26 with (first | (refine wpList_store_newB (by rfl) 39 _ _ (by rfl) _ _ _ _ (by rfl) (by rfl) (by simp) (by rfl) (by rw [hvl11]; kernel_rfl) (by rw [hvl11]; rfl) hone11 ?_; intro w12 hb12 hz12 hx12; have HB12 := Lib.hid (HB11.out.trans (hb12.mono HB11.out.size)); have HT12 := Lib.hid (goesBx.after HT11.out hb12); have HX12 : Hid (Bx (fun b => b = w11.heap.size) w12 w11.heap.size vs11) := Lib.hid hx12; clear hb12 hz12 hx12 HT11))
          go_wp2_with (first | (refine wpList_loadB HT12.out (by rfl) 31 _ (by rfl) (by rfl) _ Try.underlying31 rfl (by kernel_rfl) ?_) | (refine wpList_built (by rfl) 39 _ (by rfl) (rpT (tokQ ⟨kv, v.bytes⟩) (tokT At nt ct)).toArray (by kernel_rfl) ?_))
          have hkeq : tokQ ⟨kv, v.bytes⟩ = tokQ v := by rw [← HKV.out]
          rw [hkeq]
          clear hkeq
          refine (rPut9_any (x := tokQ v) (t := tokT At nt ct) ⟨Arr.nil, Sl.nil, Arr.nil, HV.out.after HB12.out, Sl.nil, Arr.nil, Arr.nil, Sl.nil, Sl.nil⟩ (small_B (tokA hvl) (tokS v)) (small_Q (tokS v)) (.ok c2b) HC2.out).mono ?_
          rintro e w13 ⟨A13, n13, c13, rfl, hs13, hb13⟩
          rw [werr_ok]
          have HB13 := Lib.hid (HB12.out.trans (hb13.mono HB12.out.size))
          have HT13 := Lib.hid (goesBx.after HT12.out hb13)
          have HX13 := Lib.hid (goesBx.after HX12.out hb13)
          have hl13 : n13 ≤ 140737488355328 := by have := hs13.len; rw [wval_ok] at this; omega
          have HS13 : Hid (Sl (fun b => w12.heap.size ≤ b) w13 A13 n13 c13 c2b) := Lib.hid hs13
          clear hs13 hb13 hl2' HT12 HX12
          go_wp2_with fail
          refine (rGet9_any (op := 14) HS13.out hl13 (.ok y2) HY2.out).mono ?_
          rintro e w14 ⟨t14, rfl, hq14, hb14⟩
          have HB14 := Lib.hid (HB13.out.trans (hb14.mono HB13.out.size))
          have HT14 := Lib.hid (goesBx.after HT13.out hb14)
          have HX14 := Lib.hid (goesBx.after HX13.out hb14)
          have htk : Sl (fun b => b < w14.heap.size) w14 t14.tk.a t14.tk.n t14.tk.c v.norm.bytes := HT2'.out ▸ (goesRp.mono (S' := fun b => b < w14.heap.size) hq14 fun b _ h => h).tk
          rw [show rpOf (.ok y2) = y2 from rfl, show erP (.ok y2) = 0 from rfl]
          obtain ⟨vs14, hvs14⟩ : ∃ vs14, vs14 = rpT y2 t14 := ⟨_, rfl⟩
          have hvl14 : vs14.length = 34 := by rw [hvs14]; rfl
          have hone14 : vs14.all (·.oneCell') = true := by rw [hvs14]; rfl
          have hv15 : vs14[15]? = some (.int .i64 kv) := by rw [hvs14, ← HKV.out, ← norm_kind v, ← HT2'.out]; rfl
          have hv16 : vs14[16]? = some (.slice t14.tk.a t14.tk.n t14.tk.c) := by rw [hvs14]; rfl
          rw [← hvs14]
          obtain ⟨fa14, fi14, su14, ⟨A14, n14, c14⟩, ad14, sc14, cg14, id14, rs14⟩ := t14
          dsimp only at hv16 htk
          have HTK := Lib.hid htk
          clear hvs14 hq14 hb14 HS13 hl13 HT13 HX13 htk
          go_upto_region 28 with (first | (refine wpList_store_newB (by rfl) 39 _ _ (by rfl) _ _ _ _ (by rfl) (by rfl) (by simp) (by rfl) (by rw [hvl14]; kernel_rfl) (by rw [hvl14]; rfl) hone14 ?_; intro w15 hb15 hz15 hx15; have HB15 := Lib.hid (HB14.out.trans (hb15.mono HB14.out.size)); have HT15 := Lib.hid (goesBx.after HT14.out hb15); have HX15 := Lib.hid (goesBx.after HX14.out hb15); have HTK15 := Lib.hid (HTK.out.after hb15); have p15 := hx15.c 15 _ hv15; have p16 := hx15.c 16 _ hv16; clear hb15 hz15 hx15))
          have p13 := HX15.out.c 13 _ hv13
          have t0 := HT15.out.c 0 _ rfl
          have t1 := HT15.out.c 1 _ rfl
          have cvA := conv_sl HTK15.out
          have cvB := conv_sl (HV.out.after HB15.out)
          clear hv13 hv15 hv16 hvl11 hone11 hvl14 hone14
          by_cases h2k : kv = 2
          · rw [show v.norm = v by unfold Val.norm; rw [if_pos (by rw [HKV.out, h2k])]] at cvA
            have hk2 : (kv == 2) = true := by rw [h2k]; rfl
            have hk3 : (kv != 2) = false := by rw [h2k]; rfl
            clear h2k
            go_wp2_with fail
            go_ret
            exact ⟨by simp, HB15.out⟩
          · have hk2 : (kv == 2) = false := by simpa using h2k
            have hk3 : (kv != 2) = true := by simpa using h2k
            clear h2k cvA cvB
            go_wp2_with fail
            go_ret
            exact ⟨by simp, HB15.out⟩
end Go.Proofs.Sb
