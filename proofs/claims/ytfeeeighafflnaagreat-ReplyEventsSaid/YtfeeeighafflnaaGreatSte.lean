/- Walks over the methods of reply.stream that go over one part, must, slices.Index, slices.Contains. No conditions. (written by gen_ste.py) -/
import Derived.Test.YtfeeeighafflnaaGreatStb
import Derived.Test.YtfeeeighafflnaaGreatMaps
import Derived.Test.YtfeeeighafflnaaGreatStc
import Derived.Test.YtfeeeighafflnaaGreatStd
import Derived.Test.YtfeeeighafflnaaGreatOwng
set_option linter.unusedVariables false
set_option linter.unusedSimpArgs false
namespace Go.Proofs.Sb
open Go.RowKit _root_.Sb
theorem setCell_self {w : World} {P i : Nat} {v : Value} (h : w.cell? ⟨P, i, none⟩ = some v) : w.setCell ⟨P, i, none⟩ v = w := by
  unfold World.setCell
  have e : (w.heap.modify P fun | .cells c elem frozen => .cells (if (none : Option Nat).isSome then c else c.setIfInBounds i v) elem frozen | o => o) = w.heap := by
    apply Array.ext_getElem?
    intro j
    rw [Array.getElem?_modify]
    split
    · rename_i hj
      subst hj
      cases hb : w.heap[P]? with
      | none => rfl
      | some o =>
        cases o with
        | cells c el fr =>
          unfold World.cell? at h
          simp only [hb] at h
          have h2 : c[i]? = some v := by simpa using h
          have : c.setIfInBounds i v = c := by
            apply Array.ext_getElem?
            intro k
            rw [Array.getElem?_setIfInBounds]
            split
            · rename_i hk
              subst hk
              split
              · exact h2.symm
              · rename_i hlt
                rw [Array.getElem?_eq_none (by omega)] at h2
                cases h2
            · rfl
          simp [this]
        | _ => rfl
    · rfl
  have e2 := congrArg (fun h => { w with heap := h }) e
  exact e2
theorem StR.mono {S S' : Nat → Prop} {w : World} {X : Nat} {s : Wr} (h : StR S w X s) (hS : ∀ b, S b → b < w.heap.size → S' b) : StR S' w X s := by
  obtain ⟨A, n, c, h1, h2, h3⟩ := h
  exact ⟨A, n, c, h1, fun cur e => ⟨(h2 cur e).1.mono hS, (h2 cur e).2⟩, h3⟩

set_option maxRecDepth 100000 in
theorem m_text {w : World} {X P i : Nat} {Q : World → Prop} (h : Calls Tryz.prog 49 #[.pointer (some ⟨X, 0, none⟩), .pointer (some ⟨P, i, none⟩), .func (.func 50) #[] #[], .func (.func 51) #[] #[]] w fun e w' => e = .returned (.tuple #[]) ∧ Q w') :
    Calls Tryz.prog 22 #[.pointer (some ⟨X, 0, none⟩), .pointer (some ⟨P, i, none⟩)] w fun e w' => e = .returned (.tuple #[]) ∧ Q w' := by
  have H := Lib.hid h; clear h
  go_enter Tryz.func22, Tryz.ntmps22
  go_wp2_with fail
  refine H.out.mono ?_
  rintro e w1 ⟨rfl, hq⟩
  go_wp2_with fail
  first | refine bodyPost_end (results_none rfl _ _ _) rfl ?_ | refine bodyPost_ret (v := .tuple #[]) (results_none rfl _ _ _) rfl ?_
  exact ⟨rfl, hq⟩

set_option maxRecDepth 100000 in
theorem m_level {w : World} {X P i : Nat} {Q : World → Prop} (h : Calls Tryz.prog 71 #[.pointer (some ⟨X, 0, none⟩), .pointer (some ⟨P, i, none⟩), .func (.func 72) #[] #[], .func (.func 73) #[] #[]] w fun e w' => e = .returned (.tuple #[]) ∧ Q w') :
    Calls Tryz.prog 43 #[.pointer (some ⟨X, 0, none⟩), .pointer (some ⟨P, i, none⟩)] w fun e w' => e = .returned (.tuple #[]) ∧ Q w' := by
  have H := Lib.hid h; clear h
  go_enter Tryz.func43, Tryz.ntmps43
  go_wp2_with fail
  refine H.out.mono ?_
  rintro e w1 ⟨rfl, hq⟩
  go_wp2_with fail
  first | refine bodyPost_end (results_none rfl _ _ _) rfl ?_ | refine bodyPost_ret (v := .tuple #[]) (results_none rfl _ _ _) rfl ?_
  exact ⟨rfl, hq⟩

set_option maxRecDepth 100000 in
theorem m_code {w : World} {X P i : Nat} {Q : World → Prop} (h : Calls Tryz.prog 66 #[.pointer (some ⟨X, 0, none⟩), .pointer (some ⟨P, i, none⟩), .func (.func 67) #[] #[], .func (.func 69) #[] #[]] w fun e w' => e = .returned (.tuple #[]) ∧ Q w') :
    Calls Tryz.prog 42 #[.pointer (some ⟨X, 0, none⟩), .pointer (some ⟨P, i, none⟩)] w fun e w' => e = .returned (.tuple #[]) ∧ Q w' := by
  have H := Lib.hid h; clear h
  go_enter Tryz.func42, Tryz.ntmps42
  go_wp2_with fail
  refine H.out.mono ?_
  rintro e w1 ⟨rfl, hq⟩
  go_wp2_with fail
  first | refine bodyPost_end (results_none rfl _ _ _) rfl ?_ | refine bodyPost_ret (v := .tuple #[]) (results_none rfl _ _ _) rfl ?_
  exact ⟨rfl, hq⟩

set_option maxRecDepth 100000 in
theorem m_octet {w : World} {X P i : Nat} {Q : World → Prop} (h : Calls Tryz.prog 74 #[.pointer (some ⟨X, 0, none⟩), .pointer (some ⟨P, i, none⟩), .func (.func 75) #[] #[], .func (.func 76) #[] #[]] w fun e w' => e = .returned (.tuple #[]) ∧ Q w') :
    Calls Tryz.prog 46 #[.pointer (some ⟨X, 0, none⟩), .pointer (some ⟨P, i, none⟩)] w fun e w' => e = .returned (.tuple #[]) ∧ Q w' := by
  have H := Lib.hid h; clear h
  go_enter Tryz.func46, Tryz.ntmps46
  go_wp2_with fail
  refine H.out.mono ?_
  rintro e w1 ⟨rfl, hq⟩
  go_wp2_with fail
  first | refine bodyPost_end (results_none rfl _ _ _) rfl ?_ | refine bodyPost_ret (v := .tuple #[]) (results_none rfl _ _ _) rfl ?_
  exact ⟨rfl, hq⟩

set_option maxRecDepth 100000 in
theorem m_texts {w : World} {X P i : Nat} {Q : World → Prop} (h : Calls Tryz.prog 77 #[.pointer (some ⟨X, 0, none⟩), .pointer (some ⟨P, i, none⟩), .func (.func 78) #[] #[], .func (.func 79) #[] #[]] w fun e w' => e = .returned (.tuple #[]) ∧ Q w') :
    Calls Tryz.prog 47 #[.pointer (some ⟨X, 0, none⟩), .pointer (some ⟨P, i, none⟩)] w fun e w' => e = .returned (.tuple #[]) ∧ Q w' := by
  have H := Lib.hid h; clear h
  go_enter Tryz.func47, Tryz.ntmps47
  go_wp2_with fail
  refine H.out.mono ?_
  rintro e w1 ⟨rfl, hq⟩
  go_wp2_with fail
  first | refine bodyPost_end (results_none rfl _ _ _) rfl ?_ | refine bodyPost_ret (v := .tuple #[]) (results_none rfl _ _ _) rfl ?_
  exact ⟨rfl, hq⟩

set_option maxRecDepth 100000 in
theorem m_multis {w : World} {X P i : Nat} {Q : World → Prop} (h : Calls Tryz.prog 52 #[.pointer (some ⟨X, 0, none⟩), .pointer (some ⟨P, i, none⟩), .func (.func 53) #[] #[], .func (.func 54) #[] #[]] w fun e w' => e = .returned (.tuple #[]) ∧ Q w') :
    Calls Tryz.prog 23 #[.pointer (some ⟨X, 0, none⟩), .pointer (some ⟨P, i, none⟩)] w fun e w' => e = .returned (.tuple #[]) ∧ Q w' := by
  have H := Lib.hid h; clear h
  go_enter Tryz.func23, Tryz.ntmps23
  go_wp2_with fail
  refine H.out.mono ?_
  rintro e w1 ⟨rfl, hq⟩
  go_wp2_with fail
  first | refine bodyPost_end (results_none rfl _ _ _) rfl ?_ | refine bodyPost_ret (v := .tuple #[]) (results_none rfl _ _ _) rfl ?_
  exact ⟨rfl, hq⟩

set_option maxRecDepth 100000 in
theorem m_value {w : World} {X P i : Nat} {Q : World → Prop} (h : Calls Tryz.prog 60 #[.pointer (some ⟨X, 0, none⟩), .pointer (some ⟨P, i, none⟩), .func (.func 61) #[] #[], .func (.func 62) #[] #[]] w fun e w' => e = .returned (.tuple #[]) ∧ Q w') :
    Calls Tryz.prog 26 #[.pointer (some ⟨X, 0, none⟩), .pointer (some ⟨P, i, none⟩)] w fun e w' => e = .returned (.tuple #[]) ∧ Q w' := by
  have H := Lib.hid h; clear h
  go_enter Tryz.func26, Tryz.ntmps26
  go_wp2_with fail
  refine H.out.mono ?_
  rintro e w1 ⟨rfl, hq⟩
  go_wp2_with fail
  first | refine bodyPost_end (results_none rfl _ _ _) rfl ?_ | refine bodyPost_ret (v := .tuple #[]) (results_none rfl _ _ _) rfl ?_
  exact ⟨rfl, hq⟩

set_option maxRecDepth 100000 in
theorem m_inet {w : World} {X P i : Nat} {Q : World → Prop} (h : Calls Tryz.prog 91 #[.pointer (some ⟨X, 0, none⟩), .pointer (some ⟨P, i, none⟩), .func (.func 92) #[] #[], .func (.func 93) #[] #[]] w fun e w' => e = .returned (.tuple #[]) ∧ Q w') :
    Calls Tryz.prog 59 #[.pointer (some ⟨X, 0, none⟩), .pointer (some ⟨P, i, none⟩)] w fun e w' => e = .returned (.tuple #[]) ∧ Q w' := by
  have H := Lib.hid h; clear h
  go_enter Tryz.func59, Tryz.ntmps59
  go_wp2_with fail
  refine H.out.mono ?_
  rintro e w1 ⟨rfl, hq⟩
  go_wp2_with fail
  first | refine bodyPost_end (results_none rfl _ _ _) rfl ?_ | refine bodyPost_ret (v := .tuple #[]) (results_none rfl _ _ _) rfl ?_
  exact ⟨rfl, hq⟩

set_option maxRecDepth 100000 in
theorem m_all {w : World} {X P i : Nat} {Q : World → Prop} (h : Calls Tryz.prog 86 #[.pointer (some ⟨X, 0, none⟩), .pointer (some ⟨P, i, none⟩), .func (.func 87) #[] #[], .func (.func 89) #[] #[]] w fun e w' => e = .returned (.tuple #[]) ∧ Q w') :
    Calls Tryz.prog 56 #[.pointer (some ⟨X, 0, none⟩), .pointer (some ⟨P, i, none⟩)] w fun e w' => e = .returned (.tuple #[]) ∧ Q w' := by
  have H := Lib.hid h; clear h
  go_enter Tryz.func56, Tryz.ntmps56
  go_wp2_with fail
  refine H.out.mono ?_
  rintro e w1 ⟨rfl, hq⟩
  go_wp2_with fail
  first | refine bodyPost_end (results_none rfl _ _ _) rfl ?_ | refine bodyPost_ret (v := .tuple #[]) (results_none rfl _ _ _) rfl ?_
  exact ⟨rfl, hq⟩

set_option maxHeartbeats 2000000 in
set_option maxRecDepth 100000 in
theorem rdm_must {S : Nat → Prop} {w : World} {X : Nat} {s : Wr} {is : Bool} (h : StR S w X s) (hS : ∀ b, S b → b ≠ X) :
    Calls Tryz.prog 57 #[.pointer (some ⟨X, 0, none⟩), .bool is] w fun e w' => e = .returned (.tuple #[]) ∧ StR S w' X (mustR is 11 s) ∧ Fr (fun b => b = X) w w' := by
  have HA := Lib.hid h
  have HS := Lib.hid hS; clear hS
  obtain ⟨A, n, c, hx, h3, h4⟩ := h
  have HBX := Lib.hid hx; clear hx
  have k2 := HBX.out.c 2 _ rfl
  have f2 := HBX.out.fr 2
  cases s with
  | error e =>
    have hne : (e == 0) = false := beq_eq_false_iff_ne.2 (h4 e rfl)
    simp only [werr_error] at k2
    clear h3 h4
    go_enter Tryz.func57, Tryz.ntmps57
    go_wp2_with fail
    refine bodyPost_end (results_none rfl _ _ _) rfl ?_
    exact ⟨rfl, HA.out, Fr.refl _ _⟩
  | ok cur =>
    simp only [werr_ok] at k2
    have HE : Hid (StR S (w.setCell ⟨X, 2, none⟩ (.int .i64 11)) X (.error 11)) := Lib.hid ⟨A, n, c, HBX.out.put 2 _ (by show 2 < 3; decide), fun cu e => (by cases e), fun e he => (by injection he with he; subst he; decide)⟩
    clear h3 h4
    cases is with
    | true =>
      go_enter Tryz.func57, Tryz.ntmps57
      go_wp2_with fail
      refine bodyPost_end (results_none rfl _ _ _) rfl ?_
      exact ⟨rfl, HA.out, Fr.refl _ _⟩
    | false =>
      go_enter Tryz.func57, Tryz.ntmps57
      go_wp2_with fail
      refine bodyPost_end (results_none rfl _ _ _) rfl ?_
      exact ⟨rfl, HE.out, Fr.set (S := fun b => b = X) _ (X := X) rfl _⟩
def mustW (is : Bool) : Wr := if is then .ok [] else .error 11
set_option maxHeartbeats 2000000 in
set_option maxRecDepth 100000 in
theorem wrm_must {T : Nat → Prop} {w : World} {X : Nat} {s : Wr} {is : Bool} (h : StW T w X s) :
    Calls Tryz.prog 57 #[.pointer (some ⟨X, 0, none⟩), .bool is] w fun e w' => e = .returned (.tuple #[]) ∧ ∃ T', SW w T w' X (bothW s (mustW is)) T' := by
  have HA := Lib.hid h
  obtain ⟨A, n, c, bs, h1, h2, h3, h4, h5⟩ := h.ex
  have HO := Lib.hid h1; clear h1
  have HBX := Lib.hid h2; clear h2
  have H3 := Lib.hid h3; clear h3
  have k2 := HBX.out.c 2 _ rfl
  have f2 := HBX.out.fr 2
  clear h
  cases s with
  | error e =>
    have hne : (e == 0) = false := beq_eq_false_iff_ne.2 (h5 e rfl)
    simp only [werr_error] at k2
    clear h4 h5
    go_enter Tryz.func57, Tryz.ntmps57
    go_wp2_with fail
    refine bodyPost_end (results_none rfl _ _ _) rfl ?_
    exact ⟨rfl, T, SW.refl HA.out⟩
  | ok cur =>
    simp only [werr_ok] at k2
    have hc := h4 cur rfl
    subst hc
    clear h4 h5
    cases is with
    | true =>
      have he : bothW (.ok bs) (mustW true) = .ok bs := by simp [bothW, mustW]
      have HE := Lib.hid he; clear he
      go_enter Tryz.func57, Tryz.ntmps57
      go_wp2_with fail
      refine bodyPost_end (results_none rfl _ _ _) rfl ?_
      exact ⟨rfl, T, by rw [HE.out]; exact SW.refl HA.out⟩
    | false =>
      go_enter Tryz.func57, Tryz.ntmps57
      go_wp2_with fail
      refine bodyPost_end (results_none rfl _ _ _) rfl ?_
      have hf : Fr (fun b => b = X) w (w.setCell ⟨X, 2, none⟩ (.int .i64 11)) := Fr.set (S := fun b => b = X) _ (X := X) rfl _
      refine ⟨rfl, T, ⟨HA.out.mem, fun b hb => Nat.lt_of_lt_of_le (HA.out.lt b hb) hf.size, A, n, c, bs, ?_, HBX.out.put 2 _ (by show 2 < 3; decide), H3.out, fun b e => (by cases e), fun e he => (by injection he with he; subst he; decide)⟩, Fr.set (S := T) _ (X := X) HA.out.mem _, fun b h => .inl h⟩
      have hO : OwnB (fun b => T b ∧ b ≠ X) w A n c bs := ⟨HO.out.1, fun b e => ⟨HO.out.2 b e, H3.out b e⟩⟩
      exact (goesOwnB.keep hO hf.size fun b hb hl => hf.block b hl hb.2).mono fun b hb _ => hb.1
set_option maxHeartbeats 2000000 in
set_option maxRecDepth 100000 in
theorem sindex_any {S : Nat → Prop} {A : Option Addr} {n c : Nat} {l : List B} {x : B} {w : World} (hl : Arr 1 strP S w A n c l) :
    Calls Tryz.prog 100 #[.slice A n c, .string (str x)] w fun e w' => ∃ q : Int, e = .returned (.int .i64 q) ∧ (if x ∈ l then 0 ≤ q else q = -1) ∧ Below w.heap.size w w' := by
  have hlen := Lib.hid hl.len
  have hcap := hl.cap
  have hcm := hl.capMax
  have HS := Lib.hid (hl.mono (S' := fun b => S b ∧ b < w.heap.size) fun _ h1 h2 => ⟨h1, h2⟩); clear hl
  go_enter Tryz.func100, Tryz.ntmps100
  go_wp2_with fail
  go_loopw [8] (fun i wr => ∃ k : Nat, k ≤ n ∧ i = .int .i64 (k : Nat) ∧ Hid (∀ y ∈ l.take k, x ≠ y) ∧ Below w.heap.size w wr) (fun i _ => n - (intOf i).toNat)
  case atStart => exact ⟨0, by omega, rfl, fun x hx => (by cases hx), (by repeat (first | exact Below.refl _ _ | assumption | refine Below.drew ?_ | refine below_drewN ?_ _ | refine Below.alloc ?_ (by first | (simp; done) | omega | (simp; omega)) _ | refine Below.setCell ?_ (by first | (simp; done) | omega | (simp; omega)) _))⟩
  case round =>
    obtain ⟨k, hk, rfl, HQ, hbel⟩ := hrel
    have hsz := hbel.size
    by_cases hlt : k < n
    · obtain ⟨y, hy⟩ : ∃ y, l[k]? = some y := ⟨_, List.getElem?_eq_getElem (by have := hlen.out; omega)⟩
      have HS1 := Lib.hid (HS.out.after hbel)
      obtain ⟨b, off, rfl, hSb, hbs, HC⟩ := HS1.out.at (by decide) (by omega)
      obtain ⟨v, hv1, ⟨rfl, _⟩, hv2⟩ := HC k y hy
      have hc0 := hv2 0 _ rfl
      simp only [Nat.mul_one, Nat.add_zero] at hc0
      clear hv1 hv2 HC
      have HX := Lib.hid hy; clear hy
      by_cases he : x = y
      · subst he
        have hin : x ∈ l := List.mem_of_getElem? HX.out
        have HIN := Lib.hid hin; clear hin
        go_wp2_with fail
        go_ret
        exact ⟨_, rfl, by first | (rw [if_pos HIN.out]; omega) | omega, hbel⟩
      · have hne : (x == y) = false := beq_eq_false_iff_ne.2 he
        have HNE := Lib.hid he; clear he
        go_wp2_with fail
        refine ⟨⟨k + 1, by omega, by go_num, fun z hz => ?_, hbel⟩, by simp [intOf]; omega⟩
        obtain ⟨hkl, hxk⟩ := List.getElem?_eq_some_iff.1 HX.out
        rw [List.take_succ_eq_append_getElem hkl, hxk] at hz
        rcases List.mem_append.1 hz with hz | hz
        · exact HQ.out z hz
        · rw [List.mem_singleton.1 hz]; exact HNE.out
    · obtain rfl : k = n := by omega
      have hout : x ∉ l := fun h => by
        have h0 : l.take k = l := List.take_of_length_le (by have := hlen.out; omega)
        have h1 := HQ.out
        rw [h0] at h1
        exact h1 x h rfl
      have HOUT := Lib.hid hout; clear hout
      go_wp2_with fail
      go_ret
      exact ⟨_, rfl, by first | rw [if_neg HOUT.out] | rfl, hbel⟩
set_option maxHeartbeats 2000000 in
set_option maxRecDepth 100000 in
theorem scontains_any {S : Nat → Prop} {A : Option Addr} {n c : Nat} {l : List B} {x : B} {w : World} (hl : Arr 1 strP S w A n c l) :
    Calls Tryz.prog 90 #[.slice A n c, .string (str x)] w fun e w' => e = .returned (.bool (decide (x ∈ l))) ∧ Below w.heap.size w w' := by
  have HL := Lib.hid hl; clear hl
  go_enter Tryz.func90, Tryz.ntmps90
  go_wp2_with fail
  refine (sindex_any (x := x) HL.out).mono ?_
  rintro e w1 ⟨q, rfl, hq, hb1⟩
  by_cases h : x ∈ l
  · rw [if_pos h] at hq
    have hd : decide (x ∈ l) = true := decide_eq_true h
    have HD := Lib.hid hd; clear hd h
    go_wp2_with fail
    go_ret
    exact ⟨by rw [HD.out]; first | rfl | exact congrArg (fun b => Ending.returned (Value.bool b)) (decide_eq_true hq), hb1⟩
  · rw [if_neg h] at hq
    have hd : decide (x ∈ l) = false := decide_eq_false h
    have HD := Lib.hid hd; clear hd h
    subst hq
    go_wp2_with fail
    go_ret
    exact ⟨by rw [HD.out]; first | rfl | simp, hb1⟩
end Go.Proofs.Sb

/- Walks over reply.stream's number, short, word, reading and writing. Conditions: lengths up to 2^47. -/
namespace Sb
theorem gvText_len (s : Wr) : (gV [] getText s).length ≤ 65535 := by
  cases s with
  | error e => show 0 ≤ 65535; decide
  | ok cur =>
    show (rval [] (getText cur)).length ≤ 65535
    cases h : getText cur with
    | error e => show 0 ≤ 65535; decide
    | ok p =>
      exact (getText_ok (x := p.1) (r := p.2) h).1
theorem gV_errT {s : Wr} {e : Int} (h : gR getText s = .error e) : gV [] getText s = [] := by
  cases s with
  | error e => rfl
  | ok cur =>
    cases hq : getText cur with
    | error e2 => exact gV_ok hq
    | ok p => rw [gR_ok hq] at h; cases h
theorem gR_word (ws : List B) (s : Wr) : gR (wordR ws) s = mustR (decide (gV [] getText s ∈ ws)) 11 (gR getText s) := by
  cases s with
  | error e => rfl
  | ok cur =>
    cases hq : getText cur with
    | error e2 =>
      rw [gR_err hq]
      exact gR_err (bindR_err hq)
    | ok p =>
      obtain ⟨p1, p2⟩ := p
      rw [gR_ok hq, gV_ok hq]
      by_cases hm : p1 ∈ ws
      · have : wordR ws cur = .ok (p1, p2) := by
          unfold wordR
          rw [bindR_ok hq, if_pos hm]
        rw [gR_ok this]
        simp [mustR, rval, hm]
      · have : wordR ws cur = .error 11 := by
          unfold wordR
          rw [bindR_ok hq, if_neg hm]
        rw [gR_err this]
        simp [mustR, rval, hm]
theorem tie_word (ws : List B) (s : Wr) : Tie (wordR ws) s (gV [] getText s) := by
  intro cur y rest h1 h2
  subst h1
  unfold wordR at h2
  cases hq : getText cur with
  | error e => rw [bindR_err hq] at h2; cases h2
  | ok p =>
    obtain ⟨p1, p2⟩ := p
    rw [bindR_ok hq] at h2
    split at h2
    · injection h2 with h2; injection h2 with h2 _; rw [gV_ok hq]; exact h2
    · cases h2
end Sb
namespace Go.Proofs.Sb
open Go.RowKit _root_.Sb
theorem word_W (s : Wr) (ws : List B) (x : B) : bothW (bothW (bothW s (mustW (decide (x ∈ ws)))) (text x)) (mustW (decide (x ∈ ws))) = bothW s (wordW ws x) := by
  unfold wordW
  by_cases h : x ∈ ws
  · simp only [h, decide_true, mustW, if_true]
    cases s <;> cases text x <;> simp [bothW]
  · simp only [h, decide_false, mustW, if_false, Bool.false_eq_true]
    cases s <;> simp [bothW]
theorem num_gV (s : Wr) : gV 0 (getN 4) s < 4294967296 := by
  cases s with
  | error e => show 0 < 4294967296; decide
  | ok cur =>
    show rval 0 (getN 4 cur) < 4294967296
    cases h : getN 4 cur with
    | error e => show 0 < 4294967296; decide
    | ok p => have := (getN_ok (x := p.1) (r := p.2) h).2.2.2; simpa using this
/-- reading a part into a new box: the stream goes on, nothing else changes but the stream's box -/
theorem frNew {w W1 w2 : World} {X N : Nat} (hb : Below w.heap.size w W1) (hf : Fr (fun b => b = X ∨ b = N) W1 w2) (hN : w.heap.size ≤ N) : Fr (fun b => b = X) w w2 :=
  (Fr.of_below hb).seq hf fun x hx h => by rcases h with h | h; exact h; omega
set_option maxHeartbeats 2000000 in
set_option maxRecDepth 100000 in
theorem rdm_number {S : Nat → Prop} {w : World} {X P i : Nat} {s : Wr} {vs : List Value} (h : StR S w X s) (hB : Bx (fun b => b = P) w P vs) (hi0 : vs[i]? = some (.int .i32 0)) (hSX : ∀ b, S b → b ≠ X) (hSP : ∀ b, S b → b ≠ P) (hPX : P ≠ X) :
    Calls Tryz.prog 44 #[.pointer (some ⟨X, 0, none⟩), .pointer (some ⟨P, i, none⟩)] w fun e w' => e = .returned (.tuple #[]) ∧ StR S w' X (gR getNum s) ∧ Fr (fun b => b = X ∨ b = P) w w' ∧ Bx (fun b => b = P) w' P (vs.set i (.int .i32 (gV 0 getNum s))) := by
  have hXl := h.lt
  have HA := Lib.hid (h.mono (S' := fun b => S b ∧ b < w.heap.size) fun b h1 h2 => ⟨h1, h2⟩); clear h
  have HB := Lib.hid hB; clear hB
  have HSX := Lib.hid hSX; have HSP := Lib.hid hSP; clear hSX hSP
  have HI := Lib.hid hi0; clear hi0
  have c0 := HB.out.c i _ HI.out
  have hPl := HB.out.lt
  go_enter Tryz.func44, Tryz.ntmps44
  go_wp2_with fail
  have hb0 : Below w.heap.size w (w.alloc (.cells #[.int .u32 0] 22)) := (by repeat (first | exact Below.refl _ _ | assumption | refine Below.drew ?_ | refine below_drewN ?_ _ | refine Below.alloc ?_ (by simp) _ | refine Below.setCell ?_ (by simp) _))
  refine (m_code (spr_code (i := 0) (x0 := 0) (HA.out.after hb0) (Bx.alloc w #[.int .u32 0] 22 (S := fun b => b = w.heap.size) rfl) rfl (fun b h => HSX.out b h.1) (fun b h => by have := h.2; omega) (by omega))).mono ?_
  rintro e w1 ⟨rfl, hr, hf, hbx⟩
  have hv := num_gV s
  have HBN := Lib.hid hbx; clear hbx
  have HF := Lib.hid (frNew hb0 hf (Nat.le_refl _)); clear hf hb0
  have HR := Lib.hid hr; clear hr
  have HBP := Lib.hid (goesBx.keep HB.out HF.out.size fun b hb hl => HF.out.block b hl (by rw [hb]; exact hPX))
  have n0 := HBN.out.c 0 _ rfl
  have p0 := HBP.out.c i _ HI.out
  have q0 := HBP.out.fr i
  have hv2 : gV 0 getNum s = sgn 4 (gV 0 (getN 4) s) := (num_R s).2
  have hr2 : gR getNum s = gR (getN 4) s := (num_R s).1
  obtain ⟨y, hy⟩ : ∃ y, gV 0 (getN 4) s = y := ⟨_, rfl⟩
  rw [hy] at hv n0 hv2
  clear hy
  have HV := Lib.hid hv2; have HR2 := Lib.hid hr2; clear hv2 hr2 c0
  have hs4 : sgn 4 y = if y < 2147483648 then (y : Int) else (y : Int) - 4294967296 := by unfold sgn; simp
  have HS4 := Lib.hid hs4; clear hs4
  by_cases hy : y < 2147483648
  · go_wp2_with fail
    refine bodyPost_end (results_none rfl _ _ _) rfl ?_
    exact ⟨rfl, by rw [HR2.out]; exact (HR.out.mono fun b h _ => h.1).place hPX HSP.out _, (HF.out.imp fun b _ h => .inl h).trans (Fr.set (S := fun b => b = X ∨ b = P) _ (X := P) (.inr rfl) _), by rw [HV.out, HS4.out, if_pos hy]; exact HBP.out.put i _ (vs_lt HI.out)⟩
  · go_wp2_with fail
    refine bodyPost_end (results_none rfl _ _ _) rfl ?_
    have hw : wrap32 (y : Int) = (y : Int) - 4294967296 := by unfold wrap32; omega
    exact ⟨rfl, by rw [HR2.out]; exact (HR.out.mono fun b h _ => h.1).place hPX HSP.out _, (HF.out.imp fun b _ h => .inl h).trans (Fr.set (S := fun b => b = X ∨ b = P) _ (X := P) (.inr rfl) _), by rw [HV.out, HS4.out, if_neg hy, ← hw]; exact HBP.out.put i _ (vs_lt HI.out)⟩
set_option maxHeartbeats 2000000 in
set_option maxRecDepth 100000 in
theorem wrm_number {T : Nat → Prop} {w : World} {X P i : Nat} {s : Wr} {vs : List Value} {x : Int} (h : StW T w X s) (hB : Bx (fun b => b = P) w P vs) (hi0 : vs[i]? = some (.int .i32 x)) (hT : ¬ T P) (h1 : -2147483648 ≤ x) (h2 : x ≤ 2147483647) (hl : lenS s + 4 ≤ 140737488355328) :
    Calls Tryz.prog 44 #[.pointer (some ⟨X, 0, none⟩), .pointer (some ⟨P, i, none⟩)] w fun e w' => e = .returned (.tuple #[]) ∧ ∃ T', SW w T w' X (bothW s (num4W x)) T' := by
  obtain ⟨y, hy⟩ : ∃ y : Nat, (x % 4294967296).toNat = y := ⟨_, rfl⟩
  have hy2 : x % 4294967296 = (y : Int) := by omega
  have HY := Lib.hid hy; clear hy
  have HA := Lib.hid (SW.refl h); clear h
  have HB := Lib.hid hB; clear hB
  have HI := Lib.hid hi0; clear hi0
  have c0 := HB.out.c i _ HI.out
  have hPl := HB.out.lt
  go_enter Tryz.func44, Tryz.ntmps44
  go_wp2_with fail
  try rw [hy2]
  have hb0 : Below w.heap.size w (w.alloc (.cells #[.int .u32 (y : Int)] 22)) := (by repeat (first | exact Below.refl _ _ | assumption | refine Below.drew ?_ | refine below_drewN ?_ _ | refine Below.alloc ?_ (by simp) _ | refine Below.setCell ?_ (by simp) _))
  have HA1 := Lib.hid (HA.out.after hb0)
  have HN := Lib.hid (Bx.alloc w #[.int .u32 (y : Int)] 22 (S := fun b => b = w.heap.size) rfl)
  refine (m_code (spw_code (x := y) (P := w.heap.size) (i := 0) HA1.out.at' (HN.out.c 0 _ rfl) (by omega) (by show lenS s + (enc 4 y).length ≤ _; rw [enc_length]; exact hl))).mono ?_
  rintro e w1 ⟨rfl, T', hk⟩
  have hnT : ¬ T w.heap.size := fun e => by have := HA.out.at'.lt _ e; omega
  have n0 := hk.cell hnT (HN.out.c 0 _ rfl)
  have HK := Lib.hid (HA1.out.trans hk); clear hk
  have HBP := Lib.hid (HK.out.keep goesBx HB.out fun b hb e => hT (hb ▸ e))
  have p0 := HBP.out.c i _ HI.out
  have q0 := HBP.out.fr i
  have hself := setCell_self p0
  have HE := Lib.hid hself; clear hself
  have hn4 : (.ok (enc 4 y) : Wr) = num4W x := by unfold num4W; rw [HY.out]
  have HN4 := Lib.hid hn4; clear hn4 c0
  by_cases hy : y < 2147483648
  · have hyx : (y : Int) = x := by omega
    go_wp2_with fail
    refine bodyPost_end (results_none rfl _ _ _) rfl ?_
    try rw [hyx]
    rw [HE.out]
    exact ⟨rfl, T', HK.out.as (by rw [HN4.out])⟩
  · have hyx : wrap32 (y : Int) = x := by unfold wrap32; omega
    have HYX := Lib.hid hyx; clear hyx
    go_wp2_with fail
    refine bodyPost_end (results_none rfl _ _ _) rfl ?_
    rw [HYX.out, HE.out]
    exact ⟨rfl, T', HK.out.as (by rw [HN4.out])⟩
set_option maxHeartbeats 2000000 in
set_option maxRecDepth 100000 in
theorem rdm_short {S : Nat → Prop} {w : World} {X P i : Nat} {s : Wr} {vs : List Value} (h : StR S w X s) (hB : Bx (fun b => b = P) w P vs) (hi0 : vs[i]? = some (.slice none 0 0)) (hSX : ∀ b, S b → b ≠ X) (hSP : ∀ b, S b → b ≠ P) (hPX : P ≠ X) :
    Calls Tryz.prog 48 #[.pointer (some ⟨X, 0, none⟩), .pointer (some ⟨P, i, none⟩)] w fun e w' => e = .returned (.tuple #[]) ∧ StR S w' X (gR getText s) ∧ Fr (fun b => b = X ∨ b = P) w w' ∧ ∃ A1 n1 c1, Bx (fun b => b = P) w' P (vs.set i (.slice A1 n1 c1)) ∧ Sl (fun b => w.heap.size ≤ b) w' A1 n1 c1 (gV [] getText s) := by
  have hXl := h.lt
  have HA := Lib.hid (h.mono (S' := fun b => S b ∧ b < w.heap.size) fun b h1 h2 => ⟨h1, h2⟩); clear h
  have HB := Lib.hid hB; clear hB
  have HSX := Lib.hid hSX; have HSP := Lib.hid hSP; clear hSX hSP
  have HI := Lib.hid hi0; clear hi0
  have c0 := HB.out.c i _ HI.out
  have hPl := HB.out.lt
  have hcv : (convert 25 9 (.slice none 0 0)).run Tryz.prog w = .ok (.string (str [])) w := conv_sl (S := fun _ => True) Sl.nil
  go_enter Tryz.func48, Tryz.ntmps48
  go_wp2_with fail
  have hb0 : Below w.heap.size w (w.alloc (.cells #[.string (str [])] 9)) := (by repeat (first | exact Below.refl _ _ | assumption | refine Below.drew ?_ | refine below_drewN ?_ _ | refine Below.alloc ?_ (by simp) _ | refine Below.setCell ?_ (by simp) _))
  refine (m_text (spr_text (i := 0) (x0 := []) (HA.out.after hb0) (Bx.alloc w #[.string (str [])] 9 (S := fun b => b = w.heap.size) rfl) rfl (fun b h => HSX.out b h.1) (fun b h => by have := h.2; omega) (by omega))).mono ?_
  rintro e w1 ⟨rfl, hr, hf, hbx⟩
  have HBN := Lib.hid hbx; clear hbx
  have HF := Lib.hid (frNew hb0 hf (Nat.le_refl _)); clear hf hb0
  have hz1 := HF.out.size
  have HR := Lib.hid hr
  have HBP := Lib.hid (goesBx.keep HB.out HF.out.size fun b hb hl => HF.out.block b hl (by rw [hb]; exact hPX))
  have n0 := HBN.out.c 0 _ rfl
  have p0 := HBP.out.c i _ HI.out
  have q0 := HBP.out.fr i
  have hpl1 := HBP.out.lt
  have hxl1 := HR.out.lt
  have hge := @gV_errT s
  have hvl := gvText_len s
  obtain ⟨v, hv⟩ : ∃ v, gV [] getText s = v := ⟨_, rfl⟩
  obtain ⟨s1, hs1⟩ : ∃ s1, gR getText s = s1 := ⟨_, rfl⟩
  rw [hv] at hge hvl n0
  rw [hs1] at hge hr HR
  have HV := Lib.hid hv; have HS1 := Lib.hid hs1
  clear hv hs1 hcv c0
  obtain ⟨A, n, c, hx, h3, h4⟩ := hr
  have k0 := hx.c 0 _ rfl
  have k2 := hx.c 2 _ rfl
  clear hx h3
  cases s1 with
  | error e1 =>
    have hne : (e1 == 0) = false := beq_eq_false_iff_ne.2 (h4 e1 rfl)
    have hnil : v = [] := hge rfl
    have HNIL := Lib.hid hnil
    simp only [werr_error] at k2
    clear h4 hge hnil
    go_wp2_with fail
    refine bodyPost_end (results_none rfl _ _ _) rfl ?_
    rw [HV.out, HS1.out]
    exact ⟨rfl, HR.out.mono fun b h _ => h.1, HF.out.imp fun b _ h => .inl h, none, 0, 0, bx_same1 HBP.out HI.out, by rw [HNIL.out]; exact Sl.nil⟩
  | ok cur =>
    simp only [werr_ok] at k2
    clear h4 hge
    obtain ⟨c2, W, hrun, hO, hbW⟩ := conv_own w1 v (by omega)
    have HO := Lib.hid hO; clear hO
    have HBP2 := Lib.hid (HBP.out.after hbW)
    have HR2 := Lib.hid (HR.out.after hbW)
    have p0' := HBP2.out.c i _ HI.out
    have q0' := HBP2.out.fr i
    have HBW := Lib.hid hbW; clear hbW
    go_wp2_with fail
    refine bodyPost_end (results_none rfl _ _ _) rfl ?_
    rw [HV.out, HS1.out]
    refine ⟨rfl, (HR2.out.mono fun b h _ => h.1).place hPX HSP.out _, ((HF.out.imp fun b _ h => .inl h).trans (Fr.of_below HBW.out)).trans (Fr.set (S := fun b => b = X ∨ b = P) _ (X := P) (.inr rfl) _), _, _, _, HBP2.out.put i _ (vs_lt HI.out), ?_⟩
    exact ((HO.out.sl.setCell (p := ⟨P, i, none⟩) (fun b hb => by show b ≠ P; omega) _).mono fun b hb _ => by omega)
set_option maxHeartbeats 2000000 in
set_option maxRecDepth 100000 in
theorem wrm_short {T S : Nat → Prop} {w : World} {X P i : Nat} {s : Wr} {A1 : Option Addr} {n1 c1 : Nat} {x : B} (h : StW T w X s) (hc : w.cell? ⟨P, i, none⟩ = some (.slice A1 n1 c1)) (hx : Sl S w A1 n1 c1 x) (hxl : x.length ≤ 9223372036854775807) (hl : lenS s + lenS (text x) ≤ 140737488355328) :
    Calls Tryz.prog 48 #[.pointer (some ⟨X, 0, none⟩), .pointer (some ⟨P, i, none⟩)] w fun e w' => e = .returned (.tuple #[]) ∧ ∃ T', SW w T w' X (bothW s (text x)) T' := by
  have HA := Lib.hid (SW.refl h); clear h
  have hcv : (convert 25 9 (.slice A1 n1 c1)).run Tryz.prog w = .ok (.string (str x)) w := conv_sl hx
  clear hx
  go_enter Tryz.func48, Tryz.ntmps48
  go_wp2_with fail
  have hb0 : Below w.heap.size w (w.alloc (.cells #[.string (str x)] 9)) := (by repeat (first | exact Below.refl _ _ | assumption | refine Below.drew ?_ | refine below_drewN ?_ _ | refine Below.alloc ?_ (by simp) _ | refine Below.setCell ?_ (by simp) _))
  have HA1 := Lib.hid (HA.out.after hb0)
  have HN := Lib.hid (Bx.alloc w #[.string (str x)] 9 (S := fun b => b = w.heap.size) rfl)
  refine (m_text (spw_text (x := x) (P := w.heap.size) (i := 0) HA1.out.at' (HN.out.c 0 _ rfl) hxl hl)).mono ?_
  rintro e w1 ⟨rfl, T', hk⟩
  have HK := Lib.hid (HA1.out.trans hk); clear hk
  obtain ⟨A, n, c, bs, h1, h2, _⟩ := HK.out.at'.ex
  have k0 := h2.c 0 _ rfl
  have k2 := h2.c 2 _ rfl
  clear h1 h2 hcv
  go_wp2_with fail
  refine bodyPost_end (results_none rfl _ _ _) rfl ?_
  exact ⟨rfl, T', HK.out⟩
set_option maxHeartbeats 2000000 in
set_option maxRecDepth 100000 in
theorem rdm_word {S S2 : Nat → Prop} {w : World} {X P i : Nat} {s : Wr} {vs : List Value} {A : Option Addr} {n c : Nat} {ws : List B} (h : StR S w X s) (hB : Bx (fun b => b = P) w P vs) (hi0 : vs[i]? = some (.string (str []))) (hSX : ∀ b, S b → b ≠ X) (hSP : ∀ b, S b → b ≠ P) (hPX : P ≠ X) (hw : Arr 1 strP S2 w A n c ws) (hS2 : ∀ b, S2 b → b ≠ X ∧ b ≠ P) :
    Calls Tryz.prog 58 #[.pointer (some ⟨X, 0, none⟩), .pointer (some ⟨P, i, none⟩), .slice A n c] w fun e w' => e = .returned (.tuple #[]) ∧ StR S w' X (gR (wordR ws) s) ∧ Fr (fun b => b = X ∨ b = P) w w' ∧ Bx (fun b => b = P) w' P (vs.set i (.string (str (gV [] getText s)))) := by
  have HA := Lib.hid h
  have HB := Lib.hid hB; clear hB
  have HSX := Lib.hid hSX; have HSP := Lib.hid hSP; clear hSX hSP
  have HI := Lib.hid hi0; clear hi0
  have HW := Lib.hid hw; clear hw
  have HS2 := Lib.hid hS2; clear hS2
  obtain ⟨A0, n0, c0, hx, _, _⟩ := h
  have k0 := hx.c 0 _ rfl
  clear hx
  go_enter Tryz.func58, Tryz.ntmps58
  go_wp2_with fail
  refine (m_text (spr_text (x0 := []) HA.out HB.out HI.out HSX.out HSP.out hPX)).mono ?_
  rintro e w1 ⟨rfl, hr, hf, hbx⟩
  have HBN := Lib.hid hbx; clear hbx
  have HF := Lib.hid hf; clear hf
  have HR := Lib.hid hr; clear hr k0
  have p0 := HBN.out.c i (.string (str (gV [] getText s))) (by rw [List.getElem?_set_self (vs_lt HI.out)])
  have HW1 := Lib.hid (goesArr.keep HW.out HF.out.size fun b hb hl => HF.out.block b hl (fun e => by rcases e with e | e; exact (HS2.out b hb).1 e; exact (HS2.out b hb).2 e))
  have HG := Lib.hid (gR_word ws s)
  obtain ⟨v, hv⟩ : ∃ v, gV [] getText s = v := ⟨_, rfl⟩
  rw [hv] at p0 HBN HG
  have HV := Lib.hid hv
  clear hv
  go_wp2_with fail
  refine (scontains_any (x := v) HW1.out).mono ?_
  rintro e w2 ⟨rfl, hb2⟩
  have HR2 := Lib.hid (HR.out.after hb2)
  have HBN2 := Lib.hid (HBN.out.after hb2)
  have HF2 := Lib.hid (HF.out.trans (Fr.of_below hb2)); clear hb2
  go_wp2_with fail
  refine (rdm_must HR2.out HSX.out).mono ?_
  rintro e w3 ⟨rfl, hr3, hf3⟩
  have HR3 := Lib.hid hr3; have HF3 := Lib.hid hf3; clear hr3 hf3
  go_wp2_with fail
  refine bodyPost_end (results_none rfl _ _ _) rfl ?_
  rw [HV.out]
  exact ⟨rfl, by rw [HG.out]; exact HR3.out, HF2.out.trans (HF3.out.imp fun b _ h => .inl h), goesBx.keep HBN2.out HF3.out.size fun b hb hl => HF3.out.block b hl (by rw [hb]; exact hPX)⟩
set_option maxHeartbeats 2000000 in
set_option maxRecDepth 100000 in
theorem wrm_word {T S2 : Nat → Prop} {w : World} {X P i : Nat} {s : Wr} {A : Option Addr} {n c : Nat} {ws : List B} {x : B} (h : StW T w X s) (hc : w.cell? ⟨P, i, none⟩ = some (.string (str x))) (hT : ¬ T P) (hx : x.length ≤ 9223372036854775807) (hl : lenS s + lenS (text x) ≤ 140737488355328) (hw : Arr 1 strP S2 w A n c ws) (hS2 : ∀ b, S2 b → ¬ T b) :
    Calls Tryz.prog 58 #[.pointer (some ⟨X, 0, none⟩), .pointer (some ⟨P, i, none⟩), .slice A n c] w fun e w' => e = .returned (.tuple #[]) ∧ ∃ T', SW w T w' X (bothW s (wordW ws x)) T' := by
  have HA := Lib.hid (SW.refl h)
  have HW := Lib.hid hw; clear hw
  have HS2 := Lib.hid hS2; clear hS2
  have HC := Lib.hid hc
  obtain ⟨A0, n0, c0, bs0, _, hx0, _⟩ := h.ex
  have k0 := hx0.c 0 _ rfl
  clear hx0 h
  go_enter Tryz.func58, Tryz.ntmps58
  go_wp2_with fail
  refine (scontains_any (x := x) HW.out).mono ?_
  rintro e w1 ⟨rfl, hb1⟩
  have HA1 := Lib.hid (HA.out.after hb1)
  clear hb1 k0
  go_wp2_with fail
  refine (wrm_must HA1.out.at').mono ?_
  rintro e w2 ⟨rfl, T2, hk2⟩
  have HA2 := Lib.hid (HA1.out.trans hk2); clear hk2
  have hc2 := HA2.out.cell hT HC.out
  clear hc
  go_wp2_with fail
  refine (m_text (spw_text HA2.out.at' hc2 hx (by
    have h1 := lenS_both s (mustW (decide (x ∈ ws)))
    have h2 : lenS (mustW (decide (x ∈ ws))) = 0 := by unfold mustW; split <;> rfl
    omega))).mono ?_
  rintro e w3 ⟨rfl, T3, hk3⟩
  have HA3 := Lib.hid (HA2.out.trans hk3); clear hk3
  have hc3 := HA3.out.cell hT HC.out
  have HW3 := Lib.hid (HA3.out.keep goesArr HW.out HS2.out)
  clear hc2
  go_wp2_with fail
  refine (scontains_any (x := x) HW3.out).mono ?_
  rintro e w4 ⟨rfl, hb4⟩
  have HA4 := Lib.hid (HA3.out.after hb4); clear hb4
  go_wp2_with fail
  refine (wrm_must HA4.out.at').mono ?_
  rintro e w5 ⟨rfl, T5, hk5⟩
  have HA5 := Lib.hid (HA4.out.trans hk5); clear hk5
  go_wp2_with fail
  refine bodyPost_end (results_none rfl _ _ _) rfl ?_
  exact ⟨rfl, T5, HA5.out.as (word_W s ws x)⟩
end Go.Proofs.Sb
