/- Walks over option.may, its closure, slices.IndexFunc, ContainsFunc. Conditions: the table of names reads as it was laid. -/
import Derived.Test.YtpgcadicamnpkaaDoorOptm
set_option linter.unusedVariables false
set_option linter.unusedSimpArgs false
namespace Sb
theorem may_s (d : Nat) (o : Opt) : mayD (d + 1) o = (ownO o && o.kids.all (mayD d)) := rfl
end Sb
namespace Go.Proofs.Sb
open Go.RowKit _root_.Sb

/-- what option.may does at types of so many levels -/
def MayD (d : Nat) : Prop := ∀ {S : Nat → Prop} {M : Nat} {A1 : Option Addr} {n1 c1 : Nat} {A2 : Option Addr} {n2 c2 : Nat} {o : Opt} {w : World}, OptR S w M d A1 n1 c1 A2 n2 c2 o → Pl w → Calls Tryd.prog 24 #[optV o A1 n1 c1 A2 n2 c2] w fun e w' => e = .returned (.bool (mayD (d + 1) o)) ∧ Below w.heap.size w w'
set_option maxHeartbeats 2000000 in
set_option maxRecDepth 100000 in
theorem may1_any {d : Nat} (ih : MayD d) {S : Nat → Prop} {M : Nat} {A1 : Option Addr} {n1 c1 : Nat} {A2 : Option Addr} {n2 c2 : Nat} {o : Opt} {w : World} (ho : OptR S w M d A1 n1 c1 A2 n2 c2 o) (hw : Pl w) :
    Calls Tryd.prog 39 #[optV o A1 n1 c1 A2 n2 c2] w fun e w' => e = .returned (.bool (!mayD (d + 1) o)) ∧ Below w.heap.size w w' := by
  have HO := Lib.hid ho.lt; clear ho
  have HW := Lib.hid hw; clear hw
  obtain ⟨v, hv⟩ : ∃ v, mayD (d + 1) o = v := ⟨_, rfl⟩
  have HV := Lib.hid hv; clear hv
  go_enter Tryd.func39, Tryd.ntmps39
  go_wp2_with fail
  refine (ih (HO.out.after (by repeat (first | exact Below.refl _ _ | assumption | refine Below.drew ?_ | refine below_drewN ?_ _ | refine Below.alloc ?_ (by first | (simp; done) | omega | (simp; omega)) _ | refine Below.setCell ?_ (by first | (simp; done) | omega | (simp; omega)) _))) (HW.out.after (by repeat (first | exact Below.refl _ _ | assumption | refine Below.drew ?_ | refine below_drewN ?_ _ | refine Below.alloc ?_ (by first | (simp; done) | omega | (simp; omega)) _ | refine Below.setCell ?_ (by first | (simp; done) | omega | (simp; omega)) _)))).mono ?_
  rintro e w1 ⟨rfl, hb1⟩
  rw [HV.out]
  go_wp2_with fail
  go_ret
  exact ⟨by rw [HV.out]; rfl, Below.trans (by repeat (first | exact Below.refl _ _ | assumption | refine Below.drew ?_ | refine below_drewN ?_ _ | refine Below.alloc ?_ (by first | (simp; done) | omega | (simp; omega)) _ | refine Below.setCell ?_ (by first | (simp; done) | omega | (simp; omega)) _)) (hb1.mono (by simp))⟩
set_option maxHeartbeats 2000000 in
set_option maxRecDepth 100000 in
theorem index_any {d : Nat} (ih : ∀ e, e < d → MayD e) {S : Nat → Prop} {M : Nat} {A : Option Addr} {n c : Nat} {l : List Opt} {w : World} (hl : Arr 5 (optD S w M d) S w A n c l) (hw : Pl w) :
    Calls Tryd.prog 49 #[.slice A n c, .func (.func 39) #[] #[]] w fun e w' => ∃ q : Int, e = .returned (.int .i64 q) ∧ (if l.all (mayD d) = true then q = -1 else 0 ≤ q) ∧ Below w.heap.size w w' := by
  have hlen := Lib.hid hl.len
  have hcap := hl.cap
  have hcm := hl.capMax
  have HS := Lib.hid (hl.mono (S' := fun b => S b ∧ b < w.heap.size) fun _ h1 h2 => ⟨h1, h2⟩); clear hl
  have HW := Lib.hid hw; clear hw
  go_enter Tryd.func49, Tryd.ntmps49
  go_wp2_with fail
  go_loopw [8] (fun i wr => ∃ k : Nat, k ≤ n ∧ i = .int .i64 (k : Nat) ∧ Hid (∀ x ∈ l.take k, mayD d x = true) ∧ Below w.heap.size w wr) (fun i _ => n - (intOf i).toNat)
  case atStart => exact ⟨0, by omega, rfl, fun x hx => (by cases hx), (by repeat (first | exact Below.refl _ _ | assumption | refine Below.drew ?_ | refine below_drewN ?_ _ | refine Below.alloc ?_ (by first | (simp; done) | omega | (simp; omega)) _ | refine Below.setCell ?_ (by first | (simp; done) | omega | (simp; omega)) _))⟩
  case round =>
    obtain ⟨k, hk, rfl, HQ, hbel⟩ := hrel
    have hsz := hbel.size
    by_cases hlt : k < n
    · obtain ⟨x, hx⟩ : ∃ x, l[k]? = some x := ⟨_, List.getElem?_eq_getElem (by have := hlen.out; omega)⟩
      have HS1 := Lib.hid (HS.out.after hbel)
      obtain ⟨b, off, rfl, hSb, hbs, HC⟩ := HS1.out.at (by decide) (by omega)
      obtain ⟨v, hv1, hp, hv2⟩ := HC k x hx
      obtain ⟨e, B1, m1, d1, B2, m2, d2, rfl, rfl, hR⟩ := hp.open
      have hc0 := hv2 0 _ rfl
      have hc1 := hv2 1 _ rfl
      have hc2 := hv2 2 _ rfl
      have hc3 := hv2 3 _ rfl
      have hc4 := hv2 4 _ rfl
      simp only [Nat.add_zero] at hc0
      clear hv1 hv2 HC
      have HX := Lib.hid hx; clear hx
      have HR := Lib.hid hR; clear hR
      obtain ⟨mv, hmv⟩ : ∃ mv, mayD (e + 1) x = mv := ⟨_, rfl⟩
      have HMV := Lib.hid hmv; clear hmv
      go_wp2_with fail
      refine (may1_any (ih e (by omega)) (HR.out.after hbel) (HW.out.after hbel)).mono ?_
      rintro e1 w1 ⟨rfl, hb1⟩
      rw [HMV.out]
      cases mv with
      | false =>
        have hall : ¬ l.all (mayD (e + 1)) = true := fun h => by rw [List.all_eq_true] at h; have := h x (List.mem_of_getElem? HX.out); rw [HMV.out] at this; cases this
        have HALL := Lib.hid hall; clear hall
        go_wp2_with fail
        go_ret
        exact ⟨_, rfl, by first | (rw [if_neg HALL.out]; omega) | omega, seqB hbel hb1⟩
      | true =>
        go_wp2_with fail
        refine ⟨⟨k + 1, by omega, by go_num, fun y hy => ?_, seqB hbel hb1⟩, by simp [intOf]; omega⟩
        obtain ⟨hkl, hxk⟩ := List.getElem?_eq_some_iff.1 HX.out
        rw [List.take_succ_eq_append_getElem hkl, hxk] at hy
        rcases List.mem_append.1 hy with hy | hy
        · exact HQ.out y hy
        · rw [List.mem_singleton.1 hy]; exact HMV.out
    · obtain rfl : k = n := by omega
      have hall : l.all (mayD d) = true := by
        rw [List.all_eq_true]
        have h0 : l.take k = l := List.take_of_length_le (by have := hlen.out; omega)
        have h1 := HQ.out
        rwa [h0] at h1
      have HALL := Lib.hid hall; clear hall
      go_wp2_with fail
      go_ret
      exact ⟨_, rfl, by first | rw [if_pos HALL.out] | rfl, hbel⟩
set_option maxHeartbeats 2000000 in
set_option maxRecDepth 100000 in
theorem contains_any {d : Nat} (ih : ∀ e, e < d → MayD e) {S : Nat → Prop} {M : Nat} {A : Option Addr} {n c : Nat} {l : List Opt} {w : World} (hl : Arr 5 (optD S w M d) S w A n c l) (hw : Pl w) :
    Calls Tryd.prog 38 #[.slice A n c, .func (.func 39) #[] #[]] w fun e w' => e = .returned (.bool (!l.all (mayD d))) ∧ Below w.heap.size w w' := by
  have HL := Lib.hid hl; clear hl
  have HW := Lib.hid hw; clear hw
  obtain ⟨v, hv⟩ : ∃ v, l.all (mayD d) = v := ⟨_, rfl⟩
  have HV := Lib.hid hv; clear hv
  go_enter Tryd.func38, Tryd.ntmps38
  go_wp2_with fail
  refine (index_any ih HL.out HW.out).mono ?_
  rintro e w1 ⟨q, rfl, hq, hb1⟩
  rw [HV.out] at hq
  cases v with
  | true =>
    simp only [if_true] at hq
    subst hq
    go_wp2_with fail
    go_ret
    exact ⟨by rw [HV.out]; rfl, hb1⟩
  | false =>
    simp only [Bool.false_eq_true, if_false] at hq
    go_wp2_with fail
    go_ret
    exact ⟨by rw [HV.out]; first | rfl | exact congrArg (fun b => Ending.returned (Value.bool b)) (decide_eq_true hq), hb1⟩
set_option maxHeartbeats 2000000 in
set_option maxRecDepth 100000 in
theorem may_any : ∀ d : Nat, MayD d := by
  intro d
  induction d using Nat.strongRecOn with
  | ind d ih =>
  intro S M A1 n1 c1 A2 n2 c2 o w ho hw
  have HO := Lib.hid ho.lt; clear ho
  have HW := Lib.hid hw; clear hw
  obtain ⟨ow, how⟩ : ∃ ow, ownO o = ow := ⟨_, rfl⟩
  have HOW := Lib.hid how; clear how
  obtain ⟨v, hv⟩ : ∃ v, o.kids.all (mayD d) = v := ⟨_, rfl⟩
  have HV := Lib.hid hv; clear hv
  go_enter Tryd.func24, Tryd.ntmps24
  go_wp2_with fail
  refine (own_any (HO.out.after (by repeat (first | exact Below.refl _ _ | assumption | refine Below.drew ?_ | refine below_drewN ?_ _ | refine Below.alloc ?_ (by first | (simp; done) | omega | (simp; omega)) _ | refine Below.setCell ?_ (by first | (simp; done) | omega | (simp; omega)) _))) (HW.out.after (by repeat (first | exact Below.refl _ _ | assumption | refine Below.drew ?_ | refine below_drewN ?_ _ | refine Below.alloc ?_ (by first | (simp; done) | omega | (simp; omega)) _ | refine Below.setCell ?_ (by first | (simp; done) | omega | (simp; omega)) _)))).mono ?_
  rintro e w1 ⟨rfl, hb1⟩
  rw [HOW.out]
  have p4 : w1.cell? ⟨w.heap.size, 4, none⟩ = some (.slice A2 n2 c2) := kcell hb1 (by go_simp)
  replace hb1 : Below w.heap.size w w1 := Below.trans (by repeat (first | exact Below.refl _ _ | assumption | refine Below.drew ?_ | refine below_drewN ?_ _ | refine Below.alloc ?_ (by first | (simp; done) | omega | (simp; omega)) _ | refine Below.setCell ?_ (by first | (simp; done) | omega | (simp; omega)) _)) (hb1.mono (by simp))
  cases ow with
  | false =>
    go_wp2_with fail
    go_ret
    exact ⟨by rw [may_s, HOW.out]; rfl, hb1⟩
  | true =>
    go_wp2_with fail
    refine (contains_any ih (HO.out.after hb1).kids (HW.out.after hb1)).mono ?_
    rintro e w2 ⟨rfl, hb2⟩
    rw [HV.out]
    go_wp2_with fail
    go_ret
    exact ⟨by rw [may_s, HOW.out, HV.out]; cases v <;> rfl, seqB hb1 hb2⟩
end Go.Proofs.Sb
