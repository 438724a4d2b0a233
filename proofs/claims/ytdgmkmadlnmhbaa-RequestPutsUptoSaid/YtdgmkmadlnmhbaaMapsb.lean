/- Walks over the package maps: put of structs. Conditions: the sum of the parts up to 2^47. (written by gen_mapsput.py) -/
import Derived.Test.YtdgmkmadlnmhbaaMapsa
set_option linter.unusedVariables false
set_option linter.unusedSimpArgs false
namespace Go.Proofs.Sb
open Go.RowKit _root_.Sb

/-- the cells of a pair, a multi, an entry -/
def pairP (p : B × B) (v : List Value) : Prop := v = [.string (str p.1), .string (str p.2)] ∧ p.1.length ≤ 9223372036854775807 ∧ p.2.length ≤ 9223372036854775807
def multiP (S : Nat → Prop) (w : World) (p : B × List B) (v : List Value) : Prop := ∃ A n c, v = [.string (str p.1), .slice A n c] ∧ p.1.length ≤ 9223372036854775807 ∧ Arr 1 strP S w A n c p.2
def entryP (S : Nat → Prop) (w : World) (p : B × Val) (v : List Value) : Prop := ∃ A n c, v = [.string (str p.1), .int .i64 p.2.kind, .slice A n c] ∧ p.1.length ≤ 9223372036854775807 ∧ Sl S w A n c p.2.bytes

set_option maxHeartbeats 1000000 in
theorem putp_any {S : Nat → Prop} {A : Option Addr} {n c M : Nat} {l : List (B × B)} {w : World} (hs : Arr 2 (pairP) S w A n c l) (hM : ∀ x ∈ l, ∀ b, pairW x = .ok b → b.length ≤ M) (hsum : l.length ≤ 65535 → 2 + l.length * M ≤ 140737488355328) (r : Wr) (hr : putL pairW l = r) :
    Calls Try.prog 52 #[.slice A n c, .func (.func 53) #[] #[]] w fun e w' => ∃ A1 n1 c1, e = .returned (.tuple #[.slice A1 n1 c1, .int .i64 (werr r)]) ∧ Own w.heap.size w' A1 n1 c1 (wval r) ∧ Below w.heap.size w w' := by
  have hlen := Lib.hid hs.len
  have hcap := hs.cap
  have hcm := hs.capMax
  unfold putL at hr
  by_cases hbig : 65535 < l.length
  · rw [if_pos hbig] at hr
    subst hr
    have hn : 65535 < n := by have := hlen.out; omega
    go_enter Try.func52, Try.ntmps52
    go_wp2_with fail
    go_ret2
    exact ⟨_, _, _, rfl, Own.nil, Below.refl _ _⟩
  · rw [if_neg hbig] at hr
    have hn : n ≤ 65535 := by have := hlen.out; omega
    have HSUM := Lib.hid (hsum (by omega)); clear hsum
    have HM := Lib.hid hM; clear hM
    have HR := Lib.hid hr; clear hr
    have HS := Lib.hid hs; clear hs
    go_enter Try.func52, Try.ntmps52
    go_wp2_with fail
    refine (put_any _ 2 _ (by omega) (by omega) (by omega) (by omega)).mono ?_
    rintro e w1 ⟨A1, m1, c1, rfl, ho1, hb1⟩
    go_wp2_with fail
    go_loopw [6, 20] (fun o i wr => ∃ k A2 m2 c2 pre, k ≤ n ∧ i = .int .i64 (k : Nat) ∧ o = .slice A2 m2 c2 ∧ Hid (putsM pairW (l.take k) = .ok pre) ∧ Own w.heap.size wr A2 m2 c2 (enc 2 l.length ++ pre) ∧ Below w.heap.size w wr) (fun _ i _ => n - (intOf i).toNat)
    case atStart => exact ⟨0, A1, m1, c1, [], by omega, rfl, rfl, rfl, by rw [List.append_nil, ← hlen.out]; exact ho1, hb1⟩
    case round =>
      obtain ⟨k, A2, m2, c2, pre, hk, rfl, rfl, HK, hown, hbel⟩ := hrel
      have hsz := hbel.size
      by_cases hlt : k < n
      · obtain ⟨x, hx⟩ : ∃ x, l[k]? = some x := ⟨_, List.getElem?_eq_getElem (by have := hlen.out; omega)⟩
        have HS1 := Lib.hid (HS.out.after hbel)
        obtain ⟨b, o, rfl, hSb, hbs, HC⟩ := HS1.out.at (by decide) (by omega)
        obtain ⟨v, hv1, ⟨rfl, hx1, hx2⟩, hv2⟩ := HC k x hx
        have hc0 := hv2 0 _ rfl
        simp only [Nat.add_zero] at hc0
        have hc1 := hv2 1 _ rfl
        have HMX := Lib.hid (HM.out x (List.mem_of_getElem? hx))
        clear hv1 hv2 HC
        obtain ⟨q, hq⟩ : ∃ q, pairW x = q := ⟨_, rfl⟩
        have HQ := Lib.hid hq; clear hq
        have HX := Lib.hid hx; clear hx
        go_wp2_with fail
        refine (pair_any hx1 hx2 q HQ.out).mono ?_
        rintro e w2 ⟨A3, m3, c3, rfl, ho3, hb3⟩
        have hbel2 : Below w.heap.size w w2 := Below.trans (Below.alloc hbel hsz _) (hb3.mono (by simp; omega))
        have hown2 := (hown.alloc (.cells #[.string (str x.1), .string (str x.2)] 86)).after hb3
        have hsz2 := hbel2.size
        cases q with
        | error e2 =>
          have hne := pairW_ne HQ.out
          have h0 := putsM_stop HK HX.out HQ.out
          rw [h0] at HR
          obtain rfl := HR.out
          go_wp2_with fail
          go_ret2
          exact ⟨_, _, _, rfl, Own.nil, hbel2⟩
        | ok y =>
          have HK2 := putsM_take HK HX.out HQ.out
          have hpl := Lib.hid (putsM_len (M := M) (fun x hx b hb => HM.out x (List.mem_of_mem_take hx) b hb) HK2)
          have hmul : (l.take (k + 1)).length * M ≤ l.length * M := Nat.mul_le_mul_right _ (by rw [List.length_take]; omega)
          go_wp2_with (first | (at_builtin; refine wpList_app rfl _ _ rfl w.heap.size _ _ _ _ rfl hown2 _ _ _ _ y rfl ho3.sl (by have h1 := hpl.out; have h2 := HSUM.out; rw [List.length_append] at h1; rw [List.length_append, enc_length]; omega) hsz2 ?_; intro A4 m4 c4 w3 hown3 hg3))
          go_roundw
          case rel =>
            refine ⟨k + 1, _, _, _, _, by omega, by go_num, rfl, HK2, by rw [← List.append_assoc]; exact hown3, ?_⟩
            exact Below.grown hbel2 hg3 hsz2 fun b e => (hown2.block b e).1
          case measure => simp [intOf]; omega
      · obtain rfl : k = n := by omega
        have h0 : putsM pairW l = .ok pre := by have := HK; rwa [List.take_of_length_le (by have := hlen.out; omega)] at this
        rw [h0] at HR
        obtain rfl := HR.out
        go_wp2_with fail
        go_ret2
        exact ⟨_, _, _, rfl, hown, hbel⟩

theorem pairs_any {S : Nat → Prop} {A : Option Addr} {n c M : Nat} {l : List (B × B)} {w : World} (hs : Arr 2 (pairP) S w A n c l) (hM : ∀ x ∈ l, ∀ b, pairW x = .ok b → b.length ≤ M) (hsum : l.length ≤ 65535 → 2 + l.length * M ≤ 140737488355328) (r : Wr) (hr : putL pairW l = r) :
    Calls Try.prog 18 #[.slice A n c] w fun e w' => ∃ A1 n1 c1, e = .returned (.tuple #[.slice A1 n1 c1, .int .i64 (werr r)]) ∧ Own w.heap.size w' A1 n1 c1 (wval r) ∧ Below w.heap.size w w' := by
  have HR := Lib.hid hr; clear hr
  go_enter Try.func18, Try.ntmps18
  go_wp2_with fail
  refine (putp_any hs hM hsum r HR.out).mono ?_
  rintro e w1 ⟨A1, n1, c1, rfl, ho, hb⟩
  go_wp2_with fail
  go_ret2
  exact ⟨_, _, _, rfl, ho, hb⟩

end Go.Proofs.Sb
