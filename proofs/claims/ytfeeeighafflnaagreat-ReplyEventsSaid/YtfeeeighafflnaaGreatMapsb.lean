/- Walks over the package maps: lists, two parts, and what is done with one element. Conditions: lengths up to 2^47. -/
import Derived.Test.YtfeeeighafflnaaGreatMaps
set_option linter.unusedVariables false
set_option linter.unusedSimpArgs false
namespace Go.Proofs.Sb
open Go.RowKit _root_.Sb

theorem texts_any {S : Nat → Prop} {A : Option Addr} {n c : Nat} {l : List B} {w : World} (hs : Arr 1 strP S w A n c l) (r : Wr) (hr : texts l = r) :
    Calls Tryz.prog 79 #[.slice A n c] w fun e w' => ∃ A1 n1 c1, e = .returned (.tuple #[.slice A1 n1 c1, .int .i64 (werr r)]) ∧ Own w.heap.size w' A1 n1 c1 (wval r) ∧ Below w.heap.size w w' := by
  have HR := Lib.hid hr; clear hr
  go_enter Tryz.func79, Tryz.ntmps79
  go_wp2_with fail
  refine (puts_any hs r HR.out).mono ?_
  rintro e w1 ⟨A1, n1, c1, rfl, ho, hb⟩
  go_wp2_with fail
  go_ret2
  exact ⟨_, _, _, rfl, ho, hb⟩

theorem getTexts_any {S : Nat → Prop} {A : Option Addr} {m c : Nat} {bs : B} {w : World} (hs : Sl S w A m c bs) (hm : m ≤ 140737488355328) (r : Res (List B)) (hr : getTexts bs = r) :
    Calls Tryz.prog 78 #[.slice A m c] w fun e w' => ∃ A1 n1 c1 A2 n2 c2, e = .returned (.tuple #[.slice A1 n1 c1, .slice A2 n2 c2, .int .i64 (rerr r)]) ∧ OwnA 9 1 strP w.heap.size w' A1 n1 c1 (rval [] r) ∧ Sl S w' A2 n2 c2 (rrest r) ∧ Below w.heap.size w w' := by
  have HR := Lib.hid hr; clear hr
  go_enter Tryz.func78, Tryz.ntmps78
  go_wp2_with fail
  refine (gets_any hs hm r HR.out).mono ?_
  rintro e w1 ⟨A1, n1, c1, A2, n2, c2, rfl, ho, hs2, hb⟩
  go_wp2_with fail
  go_ret3
  exact ⟨_, _, _, _, _, _, rfl, ho, hs2, hb⟩

theorem both_any {S : Nat → Prop} {A : Option Addr} {n c : Nat} {k : B} {v : Wr} {w : World} (hk : k.length ≤ 9223372036854775807) (hs : Sl S w A n c (wval v)) (hn : n ≤ 140737488289000) (hv : ∀ e, v = .error e → e ≠ 0) (r : Wr) (hr : bothW (text k) v = r) :
    Calls Tryz.prog 85 #[.string (str k), .slice A n c, .int .i64 (werr v)] w fun e w' => ∃ A1 n1 c1, e = .returned (.tuple #[.slice A1 n1 c1, .int .i64 (werr r)]) ∧ Own w.heap.size w' A1 n1 c1 (wval r) ∧ Below w.heap.size w w' := by
  have hlen := Lib.hid hs.len
  obtain ⟨q, hq⟩ : ∃ q, text k = q := ⟨_, rfl⟩
  rw [hq] at hr
  have HQ := Lib.hid hq; clear hq
  cases q with
  | error e1 =>
    have hne := text_ne HQ.out
    subst hr
    go_enter Tryz.func85, Tryz.ntmps85
    go_wp2_with fail
    refine (text_any k _ hk _ HQ.out).mono ?_
    rintro e w1 ⟨A1, n1, c1, rfl, ho, hb⟩
    go_wp2_with fail
    go_ret2
    exact ⟨_, _, _, rfl, Own.nil, hb⟩
  | ok y =>
    have hyl := (text_len HQ.out).1
    cases v with
    | error e2 =>
      have hne := hv e2 rfl
      clear hv
      subst hr
      go_enter Tryz.func85, Tryz.ntmps85
      go_wp2_with fail
      refine (text_any k _ hk _ HQ.out).mono ?_
      rintro e w1 ⟨A1, n1, c1, rfl, ho, hb⟩
      go_wp2_with fail
      go_ret2
      exact ⟨_, _, _, rfl, Own.nil, hb⟩
    | ok z =>
      subst hr
      go_enter Tryz.func85, Tryz.ntmps85
      go_wp2_with fail
      refine (text_any k _ hk _ HQ.out).mono ?_
      rintro e w1 ⟨A1, n1, c1, rfl, ho, hb⟩
      go_wp2_with (first | (at_builtin; refine wpList_app rfl _ _ rfl w.heap.size _ _ _ _ rfl ho _ _ _ _ z rfl (hs.after hb) (by have := hlen.out; simp at this; simp; omega) hb.size ?_; intro A4 m4 c4 w3 hown3 hg3))
      go_ret2
      exact ⟨_, _, _, rfl, hown3, hb.grown hg3 hb.size fun b e => (ho.block b e).1⟩

theorem multi_any {S : Nat → Prop} {A : Option Addr} {n c : Nat} {p : B × List B} {w : World} (h1 : p.1.length ≤ 9223372036854775807) (h2 : Arr 1 strP S w A n c p.2) (r : Wr) (hr : multiW p = r) :
    Calls Tryz.prog 84 #[.agg #[.string (str p.1), .slice A n c]] w fun e w' => ∃ A1 n1 c1, e = .returned (.tuple #[.slice A1 n1 c1, .int .i64 (werr r)]) ∧ Own w.heap.size w' A1 n1 c1 (wval r) ∧ Below w.heap.size w w' := by
  obtain ⟨k, x⟩ := p
  obtain ⟨q, hq⟩ : ∃ q, texts x = q := ⟨_, rfl⟩
  simp only at h1 h2 ⊢
  unfold multiW at hr
  simp only [hq] at hr
  have HR := Lib.hid hr; clear hr
  have HQ := Lib.hid hq; clear hq
  go_enter Tryz.func84, Tryz.ntmps84
  go_wp2_with fail
  refine (texts_any (h2.after (by repeat (first | exact Below.refl _ _ | assumption | refine Below.drew ?_ | refine below_drewN ?_ _ | refine Below.alloc ?_ (by simp) _ | refine Below.setCell ?_ (by simp) _))) q HQ.out).mono ?_
  rintro e w1 ⟨A1, n1, c1, rfl, ho, hb⟩
  have k0 : w1.cell? ⟨w.heap.size, 0, none⟩ = some (.string (str k)) := kcell hb (by go_simp)
  have hbel : Below w.heap.size w w1 := Below.trans (by repeat (first | exact Below.refl _ _ | assumption | refine Below.drew ?_ | refine below_drewN ?_ _ | refine Below.alloc ?_ (by simp) _ | refine Below.setCell ?_ (by simp) _)) (hb.mono (by simp))
  go_wp2_with fail
  refine (both_any (v := q) h1 ho.sl (by cases q with | error e => have := ho.len; simp at this; omega | ok y => have := ho.len; have := texts_len HQ.out; simp at *; omega) (fun e h => by subst h; exact texts_ne HQ.out) r HR.out).mono ?_
  rintro e w2 ⟨A2, n2, c2, rfl, ho2, hb2⟩
  go_wp2_with fail
  go_ret2
  exact ⟨_, _, _, rfl, ho2.mono hbel.size, seqB hbel hb2⟩

end Go.Proofs.Sb

/- Walks over the package maps: put of structs. Conditions: the sum of the parts up to 2^47. (written by gen_mapsput.py) -/
namespace Go.Proofs.Sb
open Go.RowKit _root_.Sb

/-- the cells of a pair, a multi, an entry -/
def pairP (p : B × B) (v : List Value) : Prop := v = [.string (str p.1), .string (str p.2)] ∧ p.1.length ≤ 9223372036854775807 ∧ p.2.length ≤ 9223372036854775807
def multiP (S : Nat → Prop) (w : World) (p : B × List B) (v : List Value) : Prop := ∃ A n c, v = [.string (str p.1), .slice A n c] ∧ p.1.length ≤ 9223372036854775807 ∧ Arr 1 strP S w A n c p.2
def entryP (S : Nat → Prop) (w : World) (p : B × Val) (v : List Value) : Prop := ∃ A n c, v = [.string (str p.1), .int .i64 p.2.kind, .slice A n c] ∧ p.1.length ≤ 9223372036854775807 ∧ Sl S w A n c p.2.bytes

set_option maxHeartbeats 1000000 in
theorem putm_any {S S2 : Nat → Prop} {A : Option Addr} {n c M : Nat} {l : List (B × List B)} {w : World} (hs : Arr 2 (multiP S2 w) S w A n c l) (hM : ∀ x ∈ l, ∀ b, multiW x = .ok b → b.length ≤ M) (hsum : l.length ≤ 65535 → 2 + l.length * M ≤ 140737488355328) (r : Wr) (hr : putL multiW l = r) :
    Calls Tryz.prog 83 #[.slice A n c, .func (.func 84) #[] #[]] w fun e w' => ∃ A1 n1 c1, e = .returned (.tuple #[.slice A1 n1 c1, .int .i64 (werr r)]) ∧ Own w.heap.size w' A1 n1 c1 (wval r) ∧ Below w.heap.size w w' := by
  have hlen := Lib.hid hs.len
  have hcap := hs.cap
  have hcm := hs.capMax
  unfold putL at hr
  by_cases hbig : 65535 < l.length
  · rw [if_pos hbig] at hr
    subst hr
    have hn : 65535 < n := by have := hlen.out; omega
    go_enter Tryz.func83, Tryz.ntmps83
    go_wp2_with fail
    go_ret2
    exact ⟨_, _, _, rfl, Own.nil, Below.refl _ _⟩
  · rw [if_neg hbig] at hr
    have hn : n ≤ 65535 := by have := hlen.out; omega
    have HSUM := Lib.hid (hsum (by omega)); clear hsum
    have HM := Lib.hid hM; clear hM
    have HR := Lib.hid hr; clear hr
    have HS := Lib.hid hs; clear hs
    go_enter Tryz.func83, Tryz.ntmps83
    go_wp2_with fail
    refine (put_any _ 2 _ (by omega) (by omega) (by omega) (by omega)).mono ?_
    rintro e w1 ⟨A1, m1, c1, rfl, ho1, hb1⟩
    go_wp2_with fail
    go_loopw [6, 20] (fun o i wr => ∃ k A2 m2 c2 pre, k ≤ n ∧ i = .int .i64 (k : Nat) ∧ o = .slice A2 m2 c2 ∧ Hid (putsM multiW (l.take k) = .ok pre) ∧ Own w.heap.size wr A2 m2 c2 (enc 2 l.length ++ pre) ∧ Below w.heap.size w wr) (fun _ i _ => n - (intOf i).toNat)
    case atStart => exact ⟨0, A1, m1, c1, [], by omega, rfl, rfl, rfl, by rw [List.append_nil, ← hlen.out]; exact ho1, hb1⟩
    case round =>
      obtain ⟨k, A2, m2, c2, pre, hk, rfl, rfl, HK, hown, hbel⟩ := hrel
      have hsz := hbel.size
      by_cases hlt : k < n
      · obtain ⟨x, hx⟩ : ∃ x, l[k]? = some x := ⟨_, List.getElem?_eq_getElem (by have := hlen.out; omega)⟩
        have HS1 := Lib.hid (HS.out.after hbel)
        obtain ⟨b, o, rfl, hSb, hbs, HC⟩ := HS1.out.at (by decide) (by omega)
        obtain ⟨v, hv1, ⟨A9, n9, c9, rfl, hx1, hx2⟩, hv2⟩ := HC k x hx
        have hc0 := hv2 0 _ rfl
        simp only [Nat.add_zero] at hc0
        have hc1 := hv2 1 _ rfl
        have HMX := Lib.hid (HM.out x (List.mem_of_getElem? hx))
        clear hv1 hv2 HC
        obtain ⟨q, hq⟩ : ∃ q, multiW x = q := ⟨_, rfl⟩
        have HQ := Lib.hid hq; clear hq
        have HX := Lib.hid hx; clear hx
        go_wp2_with fail
        refine (multi_any hx1 ((hx2.after hbel).after (by repeat (first | exact Below.refl _ _ | assumption | refine Below.drew ?_ | refine below_drewN ?_ _ | refine Below.alloc ?_ (by simp) _ | refine Below.setCell ?_ (by simp) _))) q HQ.out).mono ?_
        rintro e w2 ⟨A3, m3, c3, rfl, ho3, hb3⟩
        have hbel2 : Below w.heap.size w w2 := Below.trans (Below.alloc hbel hsz _) (hb3.mono (by simp; omega))
        have hown2 := (hown.alloc (.cells #[.string (str x.1), .slice A9 n9 c9] 65)).after hb3
        have hsz2 := hbel2.size
        cases q with
        | error e2 =>
          have hne := multiW_ne HQ.out
          have h0 := putsM_stop HK HX.out HQ.out
          rw [h0] at HR
          obtain rfl := HR.out
          go_wp2_with fail
          go_ret2
          exact ⟨_, _, _, rfl, Own.nil, hbel2⟩
        | ok y =>
          have HK2 := putsM_take HK HX.out HQ.out
          have hpl := Lib.hid (putsM_len (M := M) (fun x hx b hb => HM.out x (List.mem_of_mem_take hx) b hb) HK2)
          have hmul : (l.take (k + 1)).length * M ≤ l.length * M := Nat.mul_le_mul_right _ (by rw [List.length_take]; omega)
          go_wp2_with (first | (at_builtin; refine wpList_app rfl _ _ rfl w.heap.size _ _ _ _ rfl hown2 _ _ _ _ y rfl ho3.sl (by have h1 := hpl.out; have h2 := HSUM.out; rw [List.length_append] at h1; rw [List.length_append, enc_length]; omega) hsz2 ?_; intro A4 m4 c4 w3 hown3 hg3))
          go_roundw
          case rel =>
            refine ⟨k + 1, _, _, _, _, by omega, by go_num, rfl, HK2, by rw [← List.append_assoc]; exact hown3, ?_⟩
            exact Below.grown hbel2 hg3 hsz2 fun b e => (hown2.block b e).1
          case measure => simp [intOf]; omega
      · obtain rfl : k = n := by omega
        have h0 : putsM multiW l = .ok pre := by have := HK; rwa [List.take_of_length_le (by have := hlen.out; omega)] at this
        rw [h0] at HR
        obtain rfl := HR.out
        go_wp2_with fail
        go_ret2
        exact ⟨_, _, _, rfl, hown, hbel⟩

theorem multis_any {S S2 : Nat → Prop} {A : Option Addr} {n c M : Nat} {l : List (B × List B)} {w : World} (hs : Arr 2 (multiP S2 w) S w A n c l) (hM : ∀ x ∈ l, ∀ b, multiW x = .ok b → b.length ≤ M) (hsum : l.length ≤ 65535 → 2 + l.length * M ≤ 140737488355328) (r : Wr) (hr : putL multiW l = r) :
    Calls Tryz.prog 54 #[.slice A n c] w fun e w' => ∃ A1 n1 c1, e = .returned (.tuple #[.slice A1 n1 c1, .int .i64 (werr r)]) ∧ Own w.heap.size w' A1 n1 c1 (wval r) ∧ Below w.heap.size w w' := by
  have HR := Lib.hid hr; clear hr
  go_enter Tryz.func54, Tryz.ntmps54
  go_wp2_with fail
  refine (putm_any hs hM hsum r HR.out).mono ?_
  rintro e w1 ⟨A1, n1, c1, rfl, ho, hb⟩
  go_wp2_with fail
  go_ret2
  exact ⟨_, _, _, rfl, ho, hb⟩

end Go.Proofs.Sb

/- Walks over the package maps: what reads one pair, one multi, one entry. Conditions: lengths up to 2^47. (written by gen_mapsget1.py) -/
namespace Go.Proofs.Sb
open Go.RowKit _root_.Sb

theorem str_nil : str [] = ⟨#[]⟩ := rfl

theorem getMulti1_any {S : Nat → Prop} {A : Option Addr} {m c : Nat} {bs : B} {w : World} (hs : Sl S w A m c bs) (hm : m ≤ 140737488355328) (r : Res (B × List B)) (hr : multiR bs = r) :
    Calls Tryz.prog 82 #[.slice A m c] w fun e w' => ∃ x : B × List B, ∃ A1 n1 c1 A2 m2 c2, e = .returned (.tuple #[.agg #[.string (str x.1), .slice A1 n1 c1], .slice A2 m2 c2, .int .i64 (rerr r)]) ∧ (∀ q, r = .ok q → x = q.1) ∧ x.1.length ≤ 140737488355328 ∧ Arr 1 strP (fun b => w.heap.size < b) w' A1 n1 c1 x.2 ∧ Sl S w' A2 m2 c2 (rrest r) ∧ Below w.heap.size w w' := by
  have hlen := Lib.hid hs.len
  obtain ⟨rk, hrk⟩ : ∃ q, getText bs = q := ⟨_, rfl⟩
  unfold multiR bothR at hr
  rw [hrk] at hr
  have HK := Lib.hid hrk; clear hrk
  cases rk with
  | error e0 =>
    have hne := gt_ne HK.out
    subst hr
    go_enter Tryz.func82, Tryz.ntmps82
    go_wp2_with (first
      | (go_at_call 50; refine (getText_any (hs.lt.after (by repeat (first | exact Below.refl _ _ | assumption | refine Below.drew ?_ | refine below_drewN ?_ _ | refine Below.alloc ?_ (by simp) _ | refine Below.setCell ?_ (by simp) _))) (by omega) _ HK.out).mono ?_; rintro e w1 ⟨A1, m1, c1, rfl, hsl, hb⟩; have hbw1 : Below w.heap.size w w1 := Below.trans (by repeat (first | exact Below.refl _ _ | assumption | refine Below.drew ?_ | refine below_drewN ?_ _ | refine Below.alloc ?_ (by simp) _ | refine Below.setCell ?_ (by simp) _)) (hb.mono (by simp)); obtain ⟨hc, hf⟩ := bcell hb; have hz1 : w.heap.size < w1.heap.size := by (have := hb.size; simp at this; omega)))
    refine bodyPost_ret (v := .tuple #[.agg #[.string (str []), .slice none 0 0], .slice none 0 0, .int .i64 e0]) (by simp [results, Tryz.results82, go_sem, hc, str_nil]) rfl ?_
    exact ⟨([], []), _, _, _, _, _, _, rfl, (fun q h => (by cases h)), by simp, Arr.nil, Sl.nil, (by repeat (first | exact Below.refl _ _ | assumption | refine Below.drew ?_ | refine below_drewN ?_ _ | refine Below.alloc ?_ (by simp) _ | refine Below.setCell ?_ (by simp) _))⟩
  | ok p =>
    obtain ⟨k, r1⟩ := p
    have hk1 := getText_ok HK.out
    have hr1 : r1.length ≤ 140737488355328 := by have := hlen.out; omega
    have hkl : k.length ≤ 140737488355328 := by omega
    clear hk1
    obtain ⟨q, hq⟩ : ∃ q, getTexts r1 = q := ⟨_, rfl⟩
    simp only [hq] at hr
    have HQ := Lib.hid hq; clear hq
    have hre : rerr r = rerr q ∧ rrest r = rrest q ∧ ∀ y, r = .ok y → y.1 = (k, rval [] q) := by
      subst hr
      cases q with
      | error e => exact ⟨rfl, rfl, fun y h => (by cases h)⟩
      | ok p => exact ⟨rfl, rfl, fun y h => (by injection h with h; rw [← h]; rfl)⟩
    obtain ⟨hre1, hre2, hre3⟩ := hre
    rw [hre1, hre2]
    clear hre1 hre2 hr
    go_enter Tryz.func82, Tryz.ntmps82
    go_wp2_with (first
      | (go_at_call 50; first | (refine (getText_any (hs.lt.after (by repeat (first | exact Below.refl _ _ | assumption | refine Below.drew ?_ | refine below_drewN ?_ _ | refine Below.alloc ?_ (by simp) _ | refine Below.setCell ?_ (by simp) _))) (by omega) _ HK.out).mono ?_; rintro e w1 ⟨A1, m1, c1, rfl, hsl, hb⟩; have hbw1 : Below w.heap.size w w1 := Below.trans (by repeat (first | exact Below.refl _ _ | assumption | refine Below.drew ?_ | refine below_drewN ?_ _ | refine Below.alloc ?_ (by simp) _ | refine Below.setCell ?_ (by simp) _)) (hb.mono (by simp)); obtain ⟨hc, hf⟩ := bcell hb; have hz1 : w.heap.size < w1.heap.size := by (have := hb.size; simp at this; omega)))
      | (go_at_call 78; refine (getTexts_any hsl (by have := hsl.len; simp at this; omega) _ HQ.out).mono ?_; rintro e w2 ⟨A3, m3, c3, A4, m4, c4, rfl, ho2, hsl2, hb2⟩; obtain ⟨hc2, hf2⟩ := bcell hb2; have hz2 : w.heap.size < w2.heap.size := Nat.lt_of_lt_of_le hz1 hb2.size))
    refine bodyPost_ret (v := .tuple #[.agg #[.string (str k), .slice A3 m3 c3], .slice A4 m4 c4, .int .i64 (rerr q)]) (by simp [results, Tryz.results82, go_sem, hc, hc2, hz1, hz2]) rfl ?_
    refine ⟨(k, rval [] q), _, _, _, _, _, _, rfl, fun y h => (hre3 y h).symm, hkl, ((((ho2.arr (by decide)).mono (S' := fun b => w1.heap.size ≤ b) fun b h _ => h.1).setCell (fun b h => by simp; omega) _).setCell (fun b h => by simp; omega) _).mono fun b h _ => by omega, hsl2.fin (by repeat (first | exact Below.refl _ _ | assumption | refine Below.drew ?_ | refine below_drewN ?_ _ | refine Below.alloc ?_ (by first | (simp; done) | omega | (simp; omega)) _ | refine Below.setCell ?_ (by first | (simp; done) | omega | (simp; omega)) _)), (hbw1.trans (hb2.mono (by omega))).trans (by repeat (first | exact Below.refl _ _ | assumption | refine Below.drew ?_ | refine below_drewN ?_ _ | refine Below.alloc ?_ (by first | (simp; done) | omega | (simp; omega)) _ | refine Below.setCell ?_ (by first | (simp; done) | omega | (simp; omega)) _))⟩

end Go.Proofs.Sb
