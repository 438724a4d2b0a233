/- Walks over the package maps. Conditions: lengths up to 2^47. -/
import Derived.Test.YtfeeeighafflnaaGreatArr
import Derived.Test.YtfeeeighafflnaaGreatPlain
import Derived.Test.YtfeeeighafflnaaGreatPrims
set_option linter.unusedVariables false
set_option linter.unusedSimpArgs false
namespace Go.Proofs.Sb
open Go.RowKit _root_.Sb

/-- a string's cell -/
def strP (s : B) (v : List Value) : Prop := v = [.string (str s)] ∧ s.length ≤ 9223372036854775807
theorem strP_one (s : B) (v : List Value) (h : strP s v) : ∀ u ∈ v, u.oneCell' = true := by
  rw [h.1]
  intro u hu
  simp at hu
  rw [hu]
  rfl
theorem tyStr : Ty 24 9 1 16 (.string ByteArray.empty) := ⟨Tryz.underlying24, by kernel_rfl, rfl, by decide⟩

set_option maxHeartbeats 1000000 in
theorem gets_any {S : Nat → Prop} {A : Option Addr} {m c : Nat} {bs : B} {w : World} (hs : Sl S w A m c bs) (hm : m ≤ 140737488355328) (r : Res (List B)) (hr : getTexts bs = r) :
    Calls Tryz.prog 98 #[.slice A m c, .func (.func 50) #[] #[]] w fun e w' => ∃ A1 n1 c1 A2 n2 c2, e = .returned (.tuple #[.slice A1 n1 c1, .slice A2 n2 c2, .int .i64 (rerr r)]) ∧ OwnA 9 1 strP w.heap.size w' A1 n1 c1 (rval [] r) ∧ Sl S w' A2 n2 c2 (rrest r) ∧ Below w.heap.size w w' := by
  obtain ⟨r0, hr0⟩ : ∃ r0, getN 2 bs = r0 := ⟨_, rfl⟩
  have hlen := Lib.hid hs.len
  unfold getTexts getL at hr
  rw [hr0] at hr
  have HR := Lib.hid hr; clear hr
  have HR0 := Lib.hid hr0; clear hr0
  cases r0 with
  | error e0 =>
    obtain rfl := getN_err HR0.out
    obtain rfl := HR.out
    go_enter Tryz.func98, Tryz.ntmps98
    go_wp2_with fail
    refine (get_any hs (n := 2) (by omega) (by omega) _ HR0.out).mono ?_
    rintro e w1 ⟨A1, m1, c1, rfl, hs1, hb1⟩
    go_wp2_with fail
    go_ret3
    exact ⟨_, _, _, _, _, _, rfl, OwnA.nil, Sl.nil, hb1⟩
  | ok p0 =>
    obtain ⟨n, r1⟩ := p0
    obtain ⟨g1, g2, g3, g4⟩ := getN_ok HR0.out
    simp only [Nat.reducePow] at g4
    have hr1 : r1.length + 2 = bs.length := by rw [g3, List.length_drop]; omega
    clear g2 g3
    have HR2 : Hid (getsM getText n r1 = r) := HR
    clear HR
    go_enter Tryz.func98, Tryz.ntmps98
    go_wp2_with fail
    refine (get_any hs.lt (n := 2) (by omega) (by omega) _ HR0.out).mono ?_
    rintro e w1 ⟨A1, m1, c1, rfl, hs1, hb1⟩
    go_wp2_with fail
    go_loopw [0, 9, 23] (fun b o i wr => ∃ k A1 m1 c1 A2 m2 c2 xs cur, k ≤ n ∧ i = .int .u64 (k : Nat) ∧ b = .slice A1 m1 c1 ∧ o = .slice A2 m2 c2 ∧ Hid (getsM getText k r1 = .ok (xs, cur)) ∧ Sl (fun b => S b ∧ b < w.heap.size) wr A1 m1 c1 cur ∧ OwnA 9 1 strP w.heap.size wr A2 m2 c2 xs ∧ Below w.heap.size w wr) (fun _ _ i _ => n - (intOf i).toNat)
    case atStart => exact ⟨0, A1, m1, c1, none, 0, 0, [], r1, by omega, rfl, rfl, rfl, rfl, hs1, OwnA.nil, hb1⟩
    case round =>
      obtain ⟨k, A1, m1, c1, A2, m2, c2, xs, cur, hk, rfl, rfl, rfl, HK, hcur, hown, hbel⟩ := hrel
      have hcl := (getsM_len (fun b x r h => by have := getText_ok h; omega) HK).2
      have hxl := (getsM_len (fun b x r h => by have := getText_ok h; omega) HK).1
      have hsz := hbel.size
      by_cases hlt : k < n
      · obtain ⟨q, hq⟩ : ∃ q, getText cur = q := ⟨_, rfl⟩
        have HQ := Lib.hid hq; clear hq
        go_wp2_with fail
        refine (getText_any hcur (by have := hcur.len; have := hlen.out; omega) q HQ.out).mono ?_
        rintro e w2 ⟨A3, m3, c3, rfl, hs3, hb3⟩
        cases q with
        | error e2 =>
          have hne := gt_ne HQ.out
          obtain rfl := (getsM_stop hlt HK HQ.out).symm.trans HR2.out
          go_wp2_with fail
          go_ret3
          exact ⟨_, _, _, _, _, _, rfl, OwnA.nil, Sl.nil, Below.trans hbel (hb3.mono hsz)⟩
        | ok p2 =>
          obtain ⟨x, r2⟩ := p2
          obtain ⟨g5, g6, g7⟩ := getText_ok HQ.out
          clear g7
          have hbel2 : Below w.heap.size w w2 := Below.trans hbel (hb3.mono hsz)
          have hown2 := hown.after hb3
          have hsz2 := hbel2.size
          have HK2 := getsM_snoc HK HQ.out
          go_wp2_with (first | (at_builtin; refine wpList_appA rfl tyStr _ _ rfl w.heap.size _ _ _ xs rfl (hown2.after (by repeat (first | exact Below.refl _ _ | assumption | refine Below.drew ?_ | refine below_drewN ?_ _ | refine Below.alloc ?_ (by simp) _ | refine Below.setCell ?_ (by simp) _))) _ _ _ _ [x] rfl (arr_lit (P := strP) w2 #[.string (str x)] x rfl ⟨rfl, by omega⟩ rfl) strP_one (fun _ _ _ h => h) (by have := hown2.len (by decide); omega) (by have := hown2.len (by decide); unfold maxLen; omega) (by simp; omega) ?_; intro A4 m4 c4 w3 hown3 hg3 _))
          go_roundw
          case rel =>
            refine ⟨k + 1, _, _, _, _, _, _, _, _, by omega, by go_num, rfl, rfl, HK2, ?_, hown3, ?_⟩
            · exact (hs3.after (by repeat (first | exact Below.refl _ _ | assumption | refine Below.drew ?_ | refine below_drewN ?_ _ | refine Below.alloc ?_ (by simp) _ | refine Below.setCell ?_ (by simp) _))).grown hg3 fun b hb e => by have := (hown2.block b e.symm).1; omega
            · exact Below.grown (Below.alloc hbel2 hsz2 _) hg3 (by simp; omega) fun b e => (hown2.block b e).1
          case measure => simp [intOf]; omega
      · obtain rfl : k = n := by omega
        go_wp2_with fail
        go_ret3
        obtain rfl := HK.symm.trans HR2.out
        exact ⟨_, _, _, _, _, _, rfl, hown, hcur.mono fun _ h _ => h.1, hbel⟩

set_option maxHeartbeats 1000000 in
theorem puts_any {S : Nat → Prop} {A : Option Addr} {n c : Nat} {l : List B} {w : World} (hs : Arr 1 strP S w A n c l) (r : Wr) (hr : texts l = r) :
    Calls Tryz.prog 99 #[.slice A n c, .func (.func 51) #[] #[]] w fun e w' => ∃ A1 n1 c1, e = .returned (.tuple #[.slice A1 n1 c1, .int .i64 (werr r)]) ∧ Own w.heap.size w' A1 n1 c1 (wval r) ∧ Below w.heap.size w w' := by
  have hlen := Lib.hid hs.len
  have hcap := hs.cap
  have hcm := hs.capMax
  unfold texts putL at hr
  by_cases hbig : 65535 < l.length
  · rw [if_pos hbig] at hr
    subst hr
    have hn : 65535 < n := by have := hlen.out; omega
    go_enter Tryz.func99, Tryz.ntmps99
    go_wp2_with fail
    go_ret2
    exact ⟨_, _, _, rfl, Own.nil, Below.refl _ _⟩
  · rw [if_neg hbig] at hr
    have hn : n ≤ 65535 := by have := hlen.out; omega
    have HR := Lib.hid hr; clear hr
    have HS := Lib.hid hs; clear hs
    go_enter Tryz.func99, Tryz.ntmps99
    go_wp2_with fail
    refine (put_any _ 2 _ (by omega) (by omega) (by omega) (by omega)).mono ?_
    rintro e w1 ⟨A1, m1, c1, rfl, ho1, hb1⟩
    go_wp2_with fail
    go_loopw [6, 20] (fun o i wr => ∃ k A2 m2 c2 pre, k ≤ n ∧ i = .int .i64 (k : Nat) ∧ o = .slice A2 m2 c2 ∧ Hid (putsM text (l.take k) = .ok pre) ∧ Own w.heap.size wr A2 m2 c2 (enc 2 l.length ++ pre) ∧ Below w.heap.size w wr) (fun _ i _ => n - (intOf i).toNat)
    case atStart => exact ⟨0, A1, m1, c1, [], by omega, rfl, rfl, rfl, by rw [List.append_nil, ← hlen.out]; exact ho1, hb1⟩
    case round =>
      obtain ⟨k, A2, m2, c2, pre, hk, rfl, rfl, HK, hown, hbel⟩ := hrel
      have hsz := hbel.size
      by_cases hlt : k < n
      · obtain ⟨x, hx⟩ : ∃ x, l[k]? = some x := ⟨_, List.getElem?_eq_getElem (by have := hlen.out; omega)⟩
        have HS1 := Lib.hid (HS.out.after hbel)
        obtain ⟨b, o, rfl, hSb, hbs, HC⟩ := HS1.out.at (by decide) (by omega)
        obtain ⟨v, hv1, ⟨rfl, hxl⟩, hv2⟩ := HC k x hx
        have hcell := hv2 0 _ rfl
        clear hv1 hv2 HC
        obtain ⟨q, hq⟩ : ∃ q, text x = q := ⟨_, rfl⟩
        have HQ := Lib.hid hq; clear hq
        have HX := Lib.hid hx; clear hx
        simp only [Nat.mul_one, Nat.add_zero] at hcell
        go_wp2_with fail
        refine (text_any x _ hxl q HQ.out).mono ?_
        rintro e w2 ⟨A3, m3, c3, rfl, ho3, hb3⟩
        have hbel2 : Below w.heap.size w w2 := Below.trans hbel (hb3.mono hsz)
        cases q with
        | error e2 =>
          have hne := text_ne HQ.out
          have h0 := putsM_stop HK HX.out HQ.out
          rw [h0] at HR
          obtain rfl := HR.out
          go_wp2_with fail
          go_ret2
          exact ⟨_, _, _, rfl, Own.nil, hbel2⟩
        | ok y =>
          have hown2 := hown.after hb3
          have hsz2 := hbel2.size
          have HK2 := putsM_take HK HX.out HQ.out
          have hpl := Lib.hid (putsM_len (M := 65537) (fun x _ b hb => (text_len hb).1) HK)
          have hyl := (text_len HQ.out).1
          go_wp2_with (first | (at_builtin; refine wpList_app rfl _ _ rfl w.heap.size _ _ _ _ rfl hown2 _ _ _ _ y rfl ho3.sl (by have := hpl.out; rw [List.length_take] at this; rw [List.length_append, enc_length]; omega) hsz2 ?_; intro A4 m4 c4 w3 hown3 hg3))
          go_roundw
          case rel =>
            refine ⟨k + 1, _, _, _, _, by omega, by go_num, rfl, HK2, by rw [← List.append_assoc]; exact hown3, ?_⟩
            exact Below.grown hbel2 hg3 hsz2 fun b e => (hown2.block b e).1
          case measure => simp [intOf]; omega
      · obtain rfl : k = n := by omega
        have h0 : putsM text l = .ok pre := by have := HK; rwa [List.take_of_length_le (by have := hlen.out; omega)] at this
        rw [h0] at HR
        obtain rfl := HR.out
        go_wp2_with fail
        go_ret2
        exact ⟨_, _, _, rfl, hown, hbel⟩
end Go.Proofs.Sb
