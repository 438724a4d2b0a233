/- Walks over the methods of reply.stream that go over one part, must, slices.Index, slices.Contains. No conditions. (written by gen_ste.py) -/
import Derived.Test.YtfeeeighafflnaaStb
import Derived.Test.YtfeeeighafflnaaMaps
set_option linter.unusedVariables false
set_option linter.unusedSimpArgs false
namespace Go.Proofs.Sb
open Go.RowKit _root_.Sb
theorem setCell_self {w : World} {P i : Nat} {v : Value} (h : w.cell? ⟨P, i, none⟩ = some v) : w.setCell ⟨P, i, none⟩ v = w := by
  unfold World.setCell
  have e : (w.heap.modify P fun | .cells c elem frozen => .cells (if (none : Option Nat).isSome then c else c.setIfInBounds i v) elem frozen | o => o) = w.heap := by
    apply Array.ext_getElem?
    intro j
    rw [Array.getElem?_modify]
    split
    · rename_i hj
      subst hj
      cases hb : w.heap[P]? with
      | none => rfl
      | some o =>
        cases o with
        | cells c el fr =>
          unfold World.cell? at h
          simp only [hb] at h
          have h2 : c[i]? = some v := by simpa using h
          have : c.setIfInBounds i v = c := by
            apply Array.ext_getElem?
            intro k
            rw [Array.getElem?_setIfInBounds]
            split
            · rename_i hk
              subst hk
              split
              · exact h2.symm
              · rename_i hlt
                rw [Array.getElem?_eq_none (by omega)] at h2
                cases h2
            · rfl
          simp [this]
        | _ => rfl
    · rfl
  have e2 := congrArg (fun h => { w with heap := h }) e
  exact e2
theorem StR.mono {S S' : Nat → Prop} {w : World} {X : Nat} {s : Wr} (h : StR S w X s) (hS : ∀ b, S b → b < w.heap.size → S' b) : StR S' w X s := by
  obtain ⟨A, n, c, h1, h2, h3⟩ := h
  exact ⟨A, n, c, h1, fun cur e => ⟨(h2 cur e).1.mono hS, (h2 cur e).2⟩, h3⟩

set_option maxRecDepth 100000 in
theorem m_text {w : World} {X P i : Nat} {Q : World → Prop} (h : Calls Try.prog 52 #[.pointer (some ⟨X, 0, none⟩), .pointer (some ⟨P, i, none⟩), .func (.func 53) #[] #[], .func (.func 54) #[] #[]] w fun e w' => e = .returned (.tuple #[]) ∧ Q w') :
    Calls Try.prog 25 #[.pointer (some ⟨X, 0, none⟩), .pointer (some ⟨P, i, none⟩)] w fun e w' => e = .returned (.tuple #[]) ∧ Q w' := by
  have H := Lib.hid h; clear h
  go_enter Try.func25, Try.ntmps25
  go_wp2_with fail
  refine H.out.mono ?_
  rintro e w1 ⟨rfl, hq⟩
  go_wp2_with fail
  first | refine bodyPost_end (results_none rfl _ _ _) rfl ?_ | refine bodyPost_ret (v := .tuple #[]) (results_none rfl _ _ _) rfl ?_
  exact ⟨rfl, hq⟩

set_option maxRecDepth 100000 in
theorem m_level {w : World} {X P i : Nat} {Q : World → Prop} (h : Calls Try.prog 74 #[.pointer (some ⟨X, 0, none⟩), .pointer (some ⟨P, i, none⟩), .func (.func 75) #[] #[], .func (.func 76) #[] #[]] w fun e w' => e = .returned (.tuple #[]) ∧ Q w') :
    Calls Try.prog 46 #[.pointer (some ⟨X, 0, none⟩), .pointer (some ⟨P, i, none⟩)] w fun e w' => e = .returned (.tuple #[]) ∧ Q w' := by
  have H := Lib.hid h; clear h
  go_enter Try.func46, Try.ntmps46
  go_wp2_with fail
  refine H.out.mono ?_
  rintro e w1 ⟨rfl, hq⟩
  go_wp2_with fail
  first | refine bodyPost_end (results_none rfl _ _ _) rfl ?_ | refine bodyPost_ret (v := .tuple #[]) (results_none rfl _ _ _) rfl ?_
  exact ⟨rfl, hq⟩

set_option maxRecDepth 100000 in
theorem m_code {w : World} {X P i : Nat} {Q : World → Prop} (h : Calls Try.prog 69 #[.pointer (some ⟨X, 0, none⟩), .pointer (some ⟨P, i, none⟩), .func (.func 70) #[] #[], .func (.func 72) #[] #[]] w fun e w' => e = .returned (.tuple #[]) ∧ Q w') :
    Calls Try.prog 45 #[.pointer (some ⟨X, 0, none⟩), .pointer (some ⟨P, i, none⟩)] w fun e w' => e = .returned (.tuple #[]) ∧ Q w' := by
  have H := Lib.hid h; clear h
  go_enter Try.func45, Try.ntmps45
  go_wp2_with fail
  refine H.out.mono ?_
  rintro e w1 ⟨rfl, hq⟩
  go_wp2_with fail
  first | refine bodyPost_end (results_none rfl _ _ _) rfl ?_ | refine bodyPost_ret (v := .tuple #[]) (results_none rfl _ _ _) rfl ?_
  exact ⟨rfl, hq⟩

set_option maxRecDepth 100000 in
theorem m_octet {w : World} {X P i : Nat} {Q : World → Prop} (h : Calls Try.prog 77 #[.pointer (some ⟨X, 0, none⟩), .pointer (some ⟨P, i, none⟩), .func (.func 78) #[] #[], .func (.func 79) #[] #[]] w fun e w' => e = .returned (.tuple #[]) ∧ Q w') :
    Calls Try.prog 49 #[.pointer (some ⟨X, 0, none⟩), .pointer (some ⟨P, i, none⟩)] w fun e w' => e = .returned (.tuple #[]) ∧ Q w' := by
  have H := Lib.hid h; clear h
  go_enter Try.func49, Try.ntmps49
  go_wp2_with fail
  refine H.out.mono ?_
  rintro e w1 ⟨rfl, hq⟩
  go_wp2_with fail
  first | refine bodyPost_end (results_none rfl _ _ _) rfl ?_ | refine bodyPost_ret (v := .tuple #[]) (results_none rfl _ _ _) rfl ?_
  exact ⟨rfl, hq⟩

set_option maxRecDepth 100000 in
theorem m_texts {w : World} {X P i : Nat} {Q : World → Prop} (h : Calls Try.prog 80 #[.pointer (some ⟨X, 0, none⟩), .pointer (some ⟨P, i, none⟩), .func (.func 81) #[] #[], .func (.func 82) #[] #[]] w fun e w' => e = .returned (.tuple #[]) ∧ Q w') :
    Calls Try.prog 50 #[.pointer (some ⟨X, 0, none⟩), .pointer (some ⟨P, i, none⟩)] w fun e w' => e = .returned (.tuple #[]) ∧ Q w' := by
  have H := Lib.hid h; clear h
  go_enter Try.func50, Try.ntmps50
  go_wp2_with fail
  refine H.out.mono ?_
  rintro e w1 ⟨rfl, hq⟩
  go_wp2_with fail
  first | refine bodyPost_end (results_none rfl _ _ _) rfl ?_ | refine bodyPost_ret (v := .tuple #[]) (results_none rfl _ _ _) rfl ?_
  exact ⟨rfl, hq⟩

set_option maxRecDepth 100000 in
theorem m_multis {w : World} {X P i : Nat} {Q : World → Prop} (h : Calls Try.prog 55 #[.pointer (some ⟨X, 0, none⟩), .pointer (some ⟨P, i, none⟩), .func (.func 56) #[] #[], .func (.func 57) #[] #[]] w fun e w' => e = .returned (.tuple #[]) ∧ Q w') :
    Calls Try.prog 26 #[.pointer (some ⟨X, 0, none⟩), .pointer (some ⟨P, i, none⟩)] w fun e w' => e = .returned (.tuple #[]) ∧ Q w' := by
  have H := Lib.hid h; clear h
  go_enter Try.func26, Try.ntmps26
  go_wp2_with fail
  refine H.out.mono ?_
  rintro e w1 ⟨rfl, hq⟩
  go_wp2_with fail
  first | refine bodyPost_end (results_none rfl _ _ _) rfl ?_ | refine bodyPost_ret (v := .tuple #[]) (results_none rfl _ _ _) rfl ?_
  exact ⟨rfl, hq⟩

set_option maxRecDepth 100000 in
theorem m_value {w : World} {X P i : Nat} {Q : World → Prop} (h : Calls Try.prog 63 #[.pointer (some ⟨X, 0, none⟩), .pointer (some ⟨P, i, none⟩), .func (.func 64) #[] #[], .func (.func 65) #[] #[]] w fun e w' => e = .returned (.tuple #[]) ∧ Q w') :
    Calls Try.prog 29 #[.pointer (some ⟨X, 0, none⟩), .pointer (some ⟨P, i, none⟩)] w fun e w' => e = .returned (.tuple #[]) ∧ Q w' := by
  have H := Lib.hid h; clear h
  go_enter Try.func29, Try.ntmps29
  go_wp2_with fail
  refine H.out.mono ?_
  rintro e w1 ⟨rfl, hq⟩
  go_wp2_with fail
  first | refine bodyPost_end (results_none rfl _ _ _) rfl ?_ | refine bodyPost_ret (v := .tuple #[]) (results_none rfl _ _ _) rfl ?_
  exact ⟨rfl, hq⟩

set_option maxRecDepth 100000 in
theorem m_inet {w : World} {X P i : Nat} {Q : World → Prop} (h : Calls Try.prog 94 #[.pointer (some ⟨X, 0, none⟩), .pointer (some ⟨P, i, none⟩), .func (.func 95) #[] #[], .func (.func 96) #[] #[]] w fun e w' => e = .returned (.tuple #[]) ∧ Q w') :
    Calls Try.prog 62 #[.pointer (some ⟨X, 0, none⟩), .pointer (some ⟨P, i, none⟩)] w fun e w' => e = .returned (.tuple #[]) ∧ Q w' := by
  have H := Lib.hid h; clear h
  go_enter Try.func62, Try.ntmps62
  go_wp2_with fail
  refine H.out.mono ?_
  rintro e w1 ⟨rfl, hq⟩
  go_wp2_with fail
  first | refine bodyPost_end (results_none rfl _ _ _) rfl ?_ | refine bodyPost_ret (v := .tuple #[]) (results_none rfl _ _ _) rfl ?_
  exact ⟨rfl, hq⟩

set_option maxRecDepth 100000 in
theorem m_all {w : World} {X P i : Nat} {Q : World → Prop} (h : Calls Try.prog 89 #[.pointer (some ⟨X, 0, none⟩), .pointer (some ⟨P, i, none⟩), .func (.func 90) #[] #[], .func (.func 92) #[] #[]] w fun e w' => e = .returned (.tuple #[]) ∧ Q w') :
    Calls Try.prog 59 #[.pointer (some ⟨X, 0, none⟩), .pointer (some ⟨P, i, none⟩)] w fun e w' => e = .returned (.tuple #[]) ∧ Q w' := by
  have H := Lib.hid h; clear h
  go_enter Try.func59, Try.ntmps59
  go_wp2_with fail
  refine H.out.mono ?_
  rintro e w1 ⟨rfl, hq⟩
  go_wp2_with fail
  first | refine bodyPost_end (results_none rfl _ _ _) rfl ?_ | refine bodyPost_ret (v := .tuple #[]) (results_none rfl _ _ _) rfl ?_
  exact ⟨rfl, hq⟩

set_option maxHeartbeats 2000000 in
set_option maxRecDepth 100000 in
theorem rdm_must {S : Nat → Prop} {w : World} {X : Nat} {s : Wr} {is : Bool} (h : StR S w X s) (hS : ∀ b, S b → b ≠ X) :
    Calls Try.prog 60 #[.pointer (some ⟨X, 0, none⟩), .bool is] w fun e w' => e = .returned (.tuple #[]) ∧ StR S w' X (mustR is 11 s) ∧ Fr (fun b => b = X) w w' := by
  have HA := Lib.hid h
  have HS := Lib.hid hS; clear hS
  obtain ⟨A, n, c, hx, h3, h4⟩ := h
  have HBX := Lib.hid hx; clear hx
  have k2 := HBX.out.c 2 _ rfl
  have f2 := HBX.out.fr 2
  cases s with
  | error e =>
    have hne : (e == 0) = false := beq_eq_false_iff_ne.2 (h4 e rfl)
    simp only [werr_error] at k2
    clear h3 h4
    go_enter Try.func60, Try.ntmps60
    go_wp2_with fail
    refine bodyPost_end (results_none rfl _ _ _) rfl ?_
    exact ⟨rfl, HA.out, Fr.refl _ _⟩
  | ok cur =>
    simp only [werr_ok] at k2
    have HE : Hid (StR S (w.setCell ⟨X, 2, none⟩ (.int .i64 11)) X (.error 11)) := Lib.hid ⟨A, n, c, HBX.out.put 2 _ (by show 2 < 3; decide), fun cu e => (by cases e), fun e he => (by injection he with he; subst he; decide)⟩
    clear h3 h4
    cases is with
    | true =>
      go_enter Try.func60, Try.ntmps60
      go_wp2_with fail
      refine bodyPost_end (results_none rfl _ _ _) rfl ?_
      exact ⟨rfl, HA.out, Fr.refl _ _⟩
    | false =>
      go_enter Try.func60, Try.ntmps60
      go_wp2_with fail
      refine bodyPost_end (results_none rfl _ _ _) rfl ?_
      exact ⟨rfl, HE.out, Fr.set (S := fun b => b = X) _ (X := X) rfl _⟩
def mustW (is : Bool) : Wr := if is then .ok [] else .error 11
set_option maxHeartbeats 2000000 in
set_option maxRecDepth 100000 in
theorem wrm_must {T : Nat → Prop} {w : World} {X : Nat} {s : Wr} {is : Bool} (h : StW T w X s) :
    Calls Try.prog 60 #[.pointer (some ⟨X, 0, none⟩), .bool is] w fun e w' => e = .returned (.tuple #[]) ∧ ∃ T', SW w T w' X (bothW s (mustW is)) T' := by
  have HA := Lib.hid h
  obtain ⟨A, n, c, bs, h1, h2, h3, h4, h5⟩ := h.ex
  have HO := Lib.hid h1; clear h1
  have HBX := Lib.hid h2; clear h2
  have H3 := Lib.hid h3; clear h3
  have k2 := HBX.out.c 2 _ rfl
  have f2 := HBX.out.fr 2
  clear h
  cases s with
  | error e =>
    have hne : (e == 0) = false := beq_eq_false_iff_ne.2 (h5 e rfl)
    simp only [werr_error] at k2
    clear h4 h5
    go_enter Try.func60, Try.ntmps60
    go_wp2_with fail
    refine bodyPost_end (results_none rfl _ _ _) rfl ?_
    exact ⟨rfl, T, SW.refl HA.out⟩
  | ok cur =>
    simp only [werr_ok] at k2
    have hc := h4 cur rfl
    subst hc
    clear h4 h5
    cases is with
    | true =>
      have he : bothW (.ok bs) (mustW true) = .ok bs := by simp [bothW, mustW]
      have HE := Lib.hid he; clear he
      go_enter Try.func60, Try.ntmps60
      go_wp2_with fail
      refine bodyPost_end (results_none rfl _ _ _) rfl ?_
      exact ⟨rfl, T, by rw [HE.out]; exact SW.refl HA.out⟩
    | false =>
      go_enter Try.func60, Try.ntmps60
      go_wp2_with fail
      refine bodyPost_end (results_none rfl _ _ _) rfl ?_
      have hf : Fr (fun b => b = X) w (w.setCell ⟨X, 2, none⟩ (.int .i64 11)) := Fr.set (S := fun b => b = X) _ (X := X) rfl _
      refine ⟨rfl, T, ⟨HA.out.mem, fun b hb => Nat.lt_of_lt_of_le (HA.out.lt b hb) hf.size, A, n, c, bs, ?_, HBX.out.put 2 _ (by show 2 < 3; decide), H3.out, fun b e => (by cases e), fun e he => (by injection he with he; subst he; decide)⟩, Fr.set (S := T) _ (X := X) HA.out.mem _, fun b h => .inl h⟩
      have hO : OwnB (fun b => T b ∧ b ≠ X) w A n c bs := ⟨HO.out.1, fun b e => ⟨HO.out.2 b e, H3.out b e⟩⟩
      exact (goesOwnB.keep hO hf.size fun b hb hl => hf.block b hl hb.2).mono fun b hb _ => hb.1
set_option maxHeartbeats 2000000 in
set_option maxRecDepth 100000 in
theorem sindex_any {S : Nat → Prop} {A : Option Addr} {n c : Nat} {l : List B} {x : B} {w : World} (hl : Arr 1 strP S w A n c l) :
    Calls Try.prog 103 #[.slice A n c, .string (str x)] w fun e w' => ∃ q : Int, e = .returned (.int .i64 q) ∧ (if x ∈ l then 0 ≤ q else q = -1) ∧ Below w.heap.size w w' := by
  have hlen := Lib.hid hl.len
  have hcap := hl.cap
  have hcm := hl.capMax
  have HS := Lib.hid (hl.mono (S' := fun b => S b ∧ b < w.heap.size) fun _ h1 h2 => ⟨h1, h2⟩); clear hl
  go_enter Try.func103, Try.ntmps103
  go_wp2_with fail
  go_loopw [8] (fun i wr => ∃ k : Nat, k ≤ n ∧ i = .int .i64 (k : Nat) ∧ Hid (∀ y ∈ l.take k, x ≠ y) ∧ Below w.heap.size w wr) (fun i _ => n - (intOf i).toNat)
  case atStart => exact ⟨0, by omega, rfl, fun x hx => (by cases hx), (by repeat (first | exact Below.refl _ _ | assumption | refine Below.drew ?_ | refine below_drewN ?_ _ | refine Below.alloc ?_ (by first | (simp; done) | omega | (simp; omega)) _ | refine Below.setCell ?_ (by first | (simp; done) | omega | (simp; omega)) _))⟩
  case round =>
    obtain ⟨k, hk, rfl, HQ, hbel⟩ := hrel
    have hsz := hbel.size
    by_cases hlt : k < n
    · obtain ⟨y, hy⟩ : ∃ y, l[k]? = some y := ⟨_, List.getElem?_eq_getElem (by have := hlen.out; omega)⟩
      have HS1 := Lib.hid (HS.out.after hbel)
      obtain ⟨b, off, rfl, hSb, hbs, HC⟩ := HS1.out.at (by decide) (by omega)
      obtain ⟨v, hv1, ⟨rfl, _⟩, hv2⟩ := HC k y hy
      have hc0 := hv2 0 _ rfl
      simp only [Nat.mul_one, Nat.add_zero] at hc0
      clear hv1 hv2 HC
      have HX := Lib.hid hy; clear hy
      by_cases he : x = y
      · subst he
        have hin : x ∈ l := List.mem_of_getElem? HX.out
        have HIN := Lib.hid hin; clear hin
        go_wp2_with fail
        go_ret
        exact ⟨_, rfl, by first | (rw [if_pos HIN.out]; omega) | omega, hbel⟩
      · have hne : (x == y) = false := beq_eq_false_iff_ne.2 he
        have HNE := Lib.hid he; clear he
        go_wp2_with fail
        refine ⟨⟨k + 1, by omega, by go_num, fun z hz => ?_, hbel⟩, by simp [intOf]; omega⟩
        obtain ⟨hkl, hxk⟩ := List.getElem?_eq_some_iff.1 HX.out
        rw [List.take_succ_eq_append_getElem hkl, hxk] at hz
        rcases List.mem_append.1 hz with hz | hz
        · exact HQ.out z hz
        · rw [List.mem_singleton.1 hz]; exact HNE.out
    · obtain rfl : k = n := by omega
      have hout : x ∉ l := fun h => by
        have h0 : l.take k = l := List.take_of_length_le (by have := hlen.out; omega)
        have h1 := HQ.out
        rw [h0] at h1
        exact h1 x h rfl
      have HOUT := Lib.hid hout; clear hout
      go_wp2_with fail
      go_ret
      exact ⟨_, rfl, by first | rw [if_neg HOUT.out] | rfl, hbel⟩
set_option maxHeartbeats 2000000 in
set_option maxRecDepth 100000 in
theorem scontains_any {S : Nat → Prop} {A : Option Addr} {n c : Nat} {l : List B} {x : B} {w : World} (hl : Arr 1 strP S w A n c l) :
    Calls Try.prog 93 #[.slice A n c, .string (str x)] w fun e w' => e = .returned (.bool (decide (x ∈ l))) ∧ Below w.heap.size w w' := by
  have HL := Lib.hid hl; clear hl
  go_enter Try.func93, Try.ntmps93
  go_wp2_with fail
  refine (sindex_any (x := x) HL.out).mono ?_
  rintro e w1 ⟨q, rfl, hq, hb1⟩
  by_cases h : x ∈ l
  · rw [if_pos h] at hq
    have hd : decide (x ∈ l) = true := decide_eq_true h
    have HD := Lib.hid hd; clear hd h
    go_wp2_with fail
    go_ret
    exact ⟨by rw [HD.out]; first | rfl | exact congrArg (fun b => Ending.returned (Value.bool b)) (decide_eq_true hq), hb1⟩
  · rw [if_neg h] at hq
    have hd : decide (x ∈ l) = false := decide_eq_false h
    have HD := Lib.hid hd; clear hd h
    subst hq
    go_wp2_with fail
    go_ret
    exact ⟨by rw [HD.out]; first | rfl | simp, hb1⟩
end Go.Proofs.Sb
