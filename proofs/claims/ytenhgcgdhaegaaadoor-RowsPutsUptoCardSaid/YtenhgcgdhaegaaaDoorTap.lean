/- Walks over rows.fits, its closures, and rows.Cell. Conditions: none. (written by gen_tap.py) -/
import Derived.Test.YtenhgcgdhaegaaaDoorTal
import Derived.Laws.EntriesVeiled
set_option linter.unusedVariables false
set_option linter.unusedSimpArgs false
namespace Sb
def otherC (c0 x : Col) : Bool := !decide (x.space = c0.space ∧ x.table = c0.table)
def unsetV (v : Val) : Bool := decide (v.kind = 1)
def oddR (n : Int) (l : List Val) : Bool := !decide ((l.length : Int) = n) || l.any fun v => unsetV v
theorem all_odd (n : Int) (rs : List (List Val)) : rs.all (rowOk n) = !(rs.any fun l => oddR n l) := by
  rw [List.not_any_eq_all_not]
  congr 1
  funext l
  unfold rowOk oddR unsetV
  rw [Bool.not_or, Bool.not_not, List.not_any_eq_all_not]
  congr 2
  funext v
  by_cases h : v.kind = 1 <;> simp [h]
theorem all_other (cs : List Col) : sameT cs = !(cs.any fun c => otherC (cs.headD Col.none) c) := by
  cases cs with
  | nil => rfl
  | cons c l =>
    show sameT (c :: l) = !((c :: l).any fun d => otherC c d)
    rw [List.any_cons]
    have : otherC c c = false := by unfold otherC; simp
    rw [this, Bool.false_or, List.not_any_eq_all_not]
    show (l.all fun d => decide (d.space = c.space ∧ d.table = c.table)) = _
    congr 1
    funext d
    unfold otherC
    rw [Bool.not_not]
end Sb
namespace Go.Proofs.Sb
open Go.RowKit _root_.Sb
set_option maxRecDepth 100000 in
theorem fits2_any {w : World} (v : Val) {A : Option Addr} {n c : Nat} :
    Calls Tryd.prog 62 #[.agg #[.int .i64 v.kind, .slice A n c]] w fun e w' => e = .returned (.bool (unsetV v)) ∧ Below w.heap.size w w' := by
  obtain ⟨u, hu⟩ : ∃ u, (v.kind == 1) = u := ⟨_, rfl⟩
  have hk : unsetV v = u := by rw [← hu]; unfold unsetV; by_cases h : v.kind = 1 <;> simp [h]
  have HK := Lib.hid hk; clear hk
  go_enter Tryd.func62, Tryd.ntmps62
  go_wp2_with fail
  go_ret
  exact ⟨by rw [HK.out]; rfl, (by repeat (first | exact Below.refl _ _ | assumption | refine Below.drew ?_ | refine below_drewN ?_ _ | refine Below.alloc ?_ (by first | (simp; done) | omega | (simp; omega)) _ | refine Below.setCell ?_ (by first | (simp; done) | omega | (simp; omega)) _))⟩

set_option maxHeartbeats 2000000 in
set_option maxRecDepth 100000 in
theorem idx_val {S : Nat → Prop} {w : World} {A : Option Addr} {n c : Nat} {l : List Val} {S' : Nat → Prop} {w' : World} (hl : Arr 2 (valP S' w') S w A n c l) :
    Calls Tryd.prog 83 #[.slice A n c, .func (.func 62) #[] #[]] w fun e w'' => ∃ q : Int, e = .returned (.int .i64 q) ∧ ((q = -1 ∧ ∀ x ∈ l, (unsetV x) = false) ∨ ∃ k x, q = ((k : Nat) : Int) ∧ l[k]? = some x ∧ (unsetV x) = true ∧ ∀ y ∈ l.take k, (unsetV y) = false) ∧ Below w.heap.size w w'' := by
  have hlen := Lib.hid hl.len
  have hcap := hl.cap
  have hcm := hl.capMax
  have HS := Lib.hid (hl.mono (S' := fun b => S b ∧ b < w.heap.size) fun _ h1 h2 => ⟨h1, h2⟩); clear hl
  skip
  go_enter Tryd.func83, Tryd.ntmps83
  go_wp2_with fail
  go_loopw [8] (fun i wr => ∃ k : Nat, k ≤ n ∧ i = .int .i64 (k : Nat) ∧ Hid (∀ x ∈ l.take k, (unsetV x) = false) ∧ Below w.heap.size w wr) (fun i _ => n - (intOf i).toNat)
  case atStart => exact ⟨0, by omega, rfl, fun x hx => (by cases hx), (by repeat (first | exact Below.refl _ _ | assumption | refine Below.drew ?_ | refine below_drewN ?_ _ | refine Below.alloc ?_ (by first | (simp; done) | omega | (simp; omega)) _ | refine Below.setCell ?_ (by first | (simp; done) | omega | (simp; omega)) _))⟩
  case round =>
    obtain ⟨k, hk, rfl, HQ, hbel⟩ := hrel
    have hsz := hbel.size
    by_cases hlt : k < n
    · obtain ⟨x, hx⟩ : ∃ x, l[k]? = some x := ⟨_, List.getElem?_eq_getElem (by have := hlen.out; omega)⟩
      have HS1 := Lib.hid (HS.out.after hbel)
      obtain ⟨b, off, rfl, hSb, hbs, HC⟩ := HS1.out.at (by decide) (by omega)
      obtain ⟨v, hv1, hp, hv2⟩ := HC k x hx
      obtain ⟨A1, n1, k1, rfl, _⟩ := hp
      have hc0 := hv2 0 _ rfl
      have hc1 := hv2 1 _ rfl
      simp only [Nat.add_zero] at hc0
      clear hv1 hv2 HC
      have HX := Lib.hid hx; clear hx
      obtain ⟨mv, hmv⟩ : ∃ mv, (unsetV x) = mv := ⟨_, rfl⟩
      have HMV := Lib.hid hmv; clear hmv
      go_wp2_with fail
      refine (fits2_any x).mono ?_
      rintro e1 w1 ⟨rfl, hb1⟩
      rw [HMV.out]
      cases mv with
      | true =>
        go_wp2_with fail
        go_ret
        exact ⟨_, rfl, .inr ⟨k, x, rfl, HX.out, HMV.out, HQ.out⟩, seqB hbel hb1⟩
      | false =>
        go_wp2_with fail
        refine ⟨⟨k + 1, by omega, by go_num, fun y hy => ?_, seqB hbel hb1⟩, by simp [intOf]; omega⟩
        obtain ⟨hkl, hxk⟩ := List.getElem?_eq_some_iff.1 HX.out
        rw [List.take_succ_eq_append_getElem hkl, hxk] at hy
        rcases List.mem_append.1 hy with hy | hy
        · exact HQ.out y hy
        · rw [List.mem_singleton.1 hy]; exact HMV.out
    · obtain rfl : k = n := by omega
      have HALL : Hid (∀ x ∈ l, (unsetV x) = false) := by
        have h0 : l.take k = l := List.take_of_length_le (by have := hlen.out; omega)
        have h1 := HQ.out
        rwa [h0] at h1
      go_wp2_with fail
      go_ret
      exact ⟨_, rfl, .inl ⟨rfl, HALL.out⟩, hbel⟩

set_option maxHeartbeats 2000000 in
set_option maxRecDepth 100000 in
theorem con_val {S : Nat → Prop} {w : World} {A : Option Addr} {n c : Nat} {l : List Val} {S' : Nat → Prop} {w' : World} (hl : Arr 2 (valP S' w') S w A n c l) :
    Calls Tryd.prog 64 #[.slice A n c, .func (.func 62) #[] #[]] w fun e w'' => e = .returned (.bool (l.any fun x => (unsetV x))) ∧ Below w.heap.size w w'' := by
  have HL := Lib.hid hl; clear hl
  skip
  obtain ⟨v, hv⟩ : ∃ v, (l.any fun x => (unsetV x)) = v := ⟨_, rfl⟩
  have HV := Lib.hid hv; clear hv
  go_enter Tryd.func64, Tryd.ntmps64
  go_wp2_with fail
  refine (idx_val  HL.out).mono ?_
  rintro e w1 ⟨q, rfl, hq, hb1⟩
  rcases hq with ⟨rfl, hq⟩ | ⟨k, x, rfl, hq, hx, hy⟩
  · have hv0 : v = false := by rw [← HV.out, List.any_eq_false]; intro x hx; rw [hq x hx]; decide
    have HV0 := Lib.hid hv0
    clear hq hv0
    go_wp2_with fail
    go_ret
    exact ⟨by rw [HV.out, HV0.out]; rfl, hb1⟩
  · have hv0 : v = true := by rw [← HV.out, List.any_eq_true]; exact ⟨x, List.mem_of_getElem? hq, hx⟩
    have HV0 := Lib.hid hv0
    clear hq hx hy hv0
    go_wp2_with fail
    go_ret
    exact ⟨by rw [HV.out, HV0.out]; first | rfl | simp, hb1⟩


set_option maxHeartbeats 2000000 in
set_option maxRecDepth 100000 in
theorem fits3_any {S S' : Nat → Prop} {w w0 : World} {T F : Nat} {A : Option Addr} {n c : Nat} {l : List Val} {m : Int} (hT : w.cell? ⟨T, 0, none⟩ = some (.int .i64 m)) (hF : w.cell? ⟨F, 0, none⟩ = some (.func (.func 62) #[] #[])) (hl : Arr 2 (valP S' w0) S w A n c l) :
    Calls Tryd.prog 63 #[.slice A n c, .pointer (some ⟨T, 0, none⟩), .pointer (some ⟨F, 0, none⟩)] w fun e w' => e = .returned (.bool (oddR m l)) ∧ Below w.heap.size w w' := by
  have HLEN := Lib.hid hl.len
  have HL := Lib.hid hl; clear hl
  obtain ⟨u, hu⟩ : ∃ u, ((n : Int) != m) = u := ⟨_, rfl⟩
  have hk : oddR m l = (u || l.any fun v => unsetV v) := by
    rw [← hu, HLEN.out]
    unfold oddR
    by_cases h : (l.length : Int) = m <;> simp [h]
  have HK := Lib.hid hk; clear hk
  go_enter Tryd.func63, Tryd.ntmps63
  cases u with
  | true =>
    go_wp2_with fail
    go_ret
    exact ⟨by rw [HK.out]; rfl, (by repeat (first | exact Below.refl _ _ | assumption | refine Below.drew ?_ | refine below_drewN ?_ _ | refine Below.alloc ?_ (by first | (simp; done) | omega | (simp; omega)) _ | refine Below.setCell ?_ (by first | (simp; done) | omega | (simp; omega)) _))⟩
  | false =>
    go_wp2_with fail
    refine (con_val HL.out).mono ?_
    rintro e w1 ⟨rfl, hb1⟩
    go_wp2_with fail
    go_ret
    exact ⟨by rw [HK.out]; rfl, hb1⟩

set_option maxHeartbeats 2000000 in
set_option maxRecDepth 100000 in
theorem idx_row {S : Nat → Prop} {w : World} {A : Option Addr} {n c : Nat} {l : List (List Val)} {S' : Nat → Prop} {T F : Nat} {m : Int} (hT : w.cell? ⟨T, 0, none⟩ = some (.int .i64 m)) (hF : w.cell? ⟨F, 0, none⟩ = some (.func (.func 62) #[] #[])) (hl : Arr 1 (vrowP S' w) S w A n c l) :
    Calls Tryd.prog 84 #[.slice A n c, .func (.func 63) #[] #[.pointer (some ⟨T, 0, none⟩), .pointer (some ⟨F, 0, none⟩)]] w fun e w' => ∃ q : Int, e = .returned (.int .i64 q) ∧ ((q = -1 ∧ ∀ x ∈ l, (oddR m x) = false) ∨ ∃ k x, q = ((k : Nat) : Int) ∧ l[k]? = some x ∧ (oddR m x) = true ∧ ∀ y ∈ l.take k, (oddR m y) = false) ∧ Below w.heap.size w w' := by
  have hlen := Lib.hid hl.len
  have hcap := hl.cap
  have hcm := hl.capMax
  have HS := Lib.hid (hl.mono (S' := fun b => S b ∧ b < w.heap.size) fun _ h1 h2 => ⟨h1, h2⟩); clear hl
  have HT := Lib.hid hT; clear hT
  have HF := Lib.hid hF; clear hF
  go_enter Tryd.func84, Tryd.ntmps84
  go_wp2_with fail
  go_loopw [8] (fun i wr => ∃ k : Nat, k ≤ n ∧ i = .int .i64 (k : Nat) ∧ Hid (∀ x ∈ l.take k, (oddR m x) = false) ∧ Below w.heap.size w wr) (fun i _ => n - (intOf i).toNat)
  case atStart => exact ⟨0, by omega, rfl, fun x hx => (by cases hx), (by repeat (first | exact Below.refl _ _ | assumption | refine Below.drew ?_ | refine below_drewN ?_ _ | refine Below.alloc ?_ (by first | (simp; done) | omega | (simp; omega)) _ | refine Below.setCell ?_ (by first | (simp; done) | omega | (simp; omega)) _))⟩
  case round =>
    obtain ⟨k, hk, rfl, HQ, hbel⟩ := hrel
    have hsz := hbel.size
    by_cases hlt : k < n
    · obtain ⟨x, hx⟩ : ∃ x, l[k]? = some x := ⟨_, List.getElem?_eq_getElem (by have := hlen.out; omega)⟩
      have HS1 := Lib.hid (HS.out.after hbel)
      obtain ⟨b, off, rfl, hSb, hbs, HC⟩ := HS1.out.at (by decide) (by omega)
      obtain ⟨v, hv1, hp, hv2⟩ := HC k x hx
      obtain ⟨A1, n1, k1, rfl, hr1⟩ := hp
      have HR1 := Lib.hid (hr1.after hbel); clear hr1
      have hc0 := hv2 0 _ rfl
      simp only [Nat.mul_one, Nat.add_zero] at hc0
      clear hv1 hv2 HC
      have HX := Lib.hid hx; clear hx
      obtain ⟨mv, hmv⟩ : ∃ mv, (oddR m x) = mv := ⟨_, rfl⟩
      have HMV := Lib.hid hmv; clear hmv
      go_wp2_with fail
      refine (fits3_any (kcell hbel HT.out) (kcell hbel HF.out) HR1.out).mono ?_
      rintro e1 w1 ⟨rfl, hb1⟩
      rw [HMV.out]
      cases mv with
      | true =>
        go_wp2_with fail
        go_ret
        exact ⟨_, rfl, .inr ⟨k, x, rfl, HX.out, HMV.out, HQ.out⟩, seqB hbel hb1⟩
      | false =>
        go_wp2_with fail
        refine ⟨⟨k + 1, by omega, by go_num, fun y hy => ?_, seqB hbel hb1⟩, by simp [intOf]; omega⟩
        obtain ⟨hkl, hxk⟩ := List.getElem?_eq_some_iff.1 HX.out
        rw [List.take_succ_eq_append_getElem hkl, hxk] at hy
        rcases List.mem_append.1 hy with hy | hy
        · exact HQ.out y hy
        · rw [List.mem_singleton.1 hy]; exact HMV.out
    · obtain rfl : k = n := by omega
      have HALL : Hid (∀ x ∈ l, (oddR m x) = false) := by
        have h0 : l.take k = l := List.take_of_length_le (by have := hlen.out; omega)
        have h1 := HQ.out
        rwa [h0] at h1
      go_wp2_with fail
      go_ret
      exact ⟨_, rfl, .inl ⟨rfl, HALL.out⟩, hbel⟩

set_option maxHeartbeats 2000000 in
set_option maxRecDepth 100000 in
theorem con_row {S : Nat → Prop} {w : World} {A : Option Addr} {n c : Nat} {l : List (List Val)} {S' : Nat → Prop} {T F : Nat} {m : Int} (hT : w.cell? ⟨T, 0, none⟩ = some (.int .i64 m)) (hF : w.cell? ⟨F, 0, none⟩ = some (.func (.func 62) #[] #[])) (hl : Arr 1 (vrowP S' w) S w A n c l) :
    Calls Tryd.prog 66 #[.slice A n c, .func (.func 63) #[] #[.pointer (some ⟨T, 0, none⟩), .pointer (some ⟨F, 0, none⟩)]] w fun e w' => e = .returned (.bool (l.any fun x => (oddR m x))) ∧ Below w.heap.size w w' := by
  have HL := Lib.hid hl; clear hl
  have HT := Lib.hid hT; clear hT
  have HF := Lib.hid hF; clear hF
  obtain ⟨v, hv⟩ : ∃ v, (l.any fun x => (oddR m x)) = v := ⟨_, rfl⟩
  have HV := Lib.hid hv; clear hv
  go_enter Tryd.func66, Tryd.ntmps66
  go_wp2_with fail
  refine (idx_row HT.out HF.out HL.out).mono ?_
  rintro e w1 ⟨q, rfl, hq, hb1⟩
  rcases hq with ⟨rfl, hq⟩ | ⟨k, x, rfl, hq, hx, hy⟩
  · have hv0 : v = false := by rw [← HV.out, List.any_eq_false]; intro x hx; rw [hq x hx]; decide
    have HV0 := Lib.hid hv0
    clear hq hv0
    go_wp2_with fail
    go_ret
    exact ⟨by rw [HV.out, HV0.out]; rfl, hb1⟩
  · have hv0 : v = true := by rw [← HV.out, List.any_eq_true]; exact ⟨x, List.mem_of_getElem? hq, hx⟩
    have HV0 := Lib.hid hv0
    clear hq hx hy hv0
    go_wp2_with fail
    go_ret
    exact ⟨by rw [HV.out, HV0.out]; first | rfl | simp, hb1⟩


set_option maxHeartbeats 4000000 in
set_option maxRecDepth 100000 in
theorem fits1_any {S S' : Nat → Prop} {M dp : Nat} {w w0 : World} {T : Nat} {A : Option Addr} {n c : Nat} {cs : List Col} {c0 x : Col} {A1 A2 : Option Addr} {n1 k1 n2 k2 : Nat} (hT : w.cell? ⟨T, 1, none⟩ = some (.slice A n c)) (hl : Arr 8 (colP M dp S' w0) S w A n c cs) (h0 : cs[0]? = some c0) :
    Calls Tryd.prog 61 #[.agg #[.string (str x.space), .string (str x.table), .string (str x.name), .int .u16 (x.type.id : Int), .string (str x.type.space), .string (str x.type.name), .slice A1 n1 k1, .slice A2 n2 k2], .pointer (some ⟨T, 0, none⟩)] w fun e w' => e = .returned (.bool (otherC c0 x)) ∧ Below w.heap.size w w' := by
  have hlen := hl.len
  have hn : 0 < n := by rw [hlen]; rcases cs with _ | _; cases h0; simp
  have hcap := hl.cap
  have hcm := hl.capMax
  obtain ⟨b, off, rfl, hSb, hbs, HC⟩ := hl.at (by decide) hn
  obtain ⟨v, hv1, hp, hv2⟩ := HC 0 c0 h0
  obtain ⟨B1, m1, d1, B2, m2, d2, rfl, _⟩ := hp
  have hc0 := hv2 0 _ rfl
  have hc1 := hv2 1 _ rfl
  simp only [Nat.zero_mul, Nat.add_zero] at hc0 hc1
  clear hv1 hv2 HC hl h0 hlen
  obtain ⟨u1, hu1⟩ : ∃ u, (x.space == c0.space) = u := ⟨_, rfl⟩
  obtain ⟨u2, hu2⟩ : ∃ u, (x.table == c0.table) = u := ⟨_, rfl⟩
  have hk : otherC c0 x = (!u1 || !u2) := by
    rw [← hu1, ← hu2]
    unfold otherC
    by_cases g1 : x.space = c0.space <;> by_cases g2 : x.table = c0.table <;> simp [g1, g2]
  have HK := Lib.hid hk; clear hk
  have hlT := World.block_lt_of_cell? w ⟨T, 1, none⟩ hT
  go_enter Tryd.func61, Tryd.ntmps61
  go_upto_region 1 with fail
  cases u1 with
  | false =>
    go_quiet (fail)
    go_wp2_with fail
    go_ret
    exact ⟨by rw [HK.out]; rfl, (by repeat (first | exact Below.refl _ _ | assumption | refine Below.drew ?_ | refine below_drewN ?_ _ | refine Below.alloc ?_ (by first | (simp; done) | omega | (simp; omega)) _ | refine Below.setCell ?_ (by first | (simp; done) | omega | (simp; omega)) _))⟩
  | true =>
    go_quiet (fail)
    go_wp2_with fail
    go_ret
    exact ⟨by rw [HK.out]; first | rfl | simp, (by repeat (first | exact Below.refl _ _ | assumption | refine Below.drew ?_ | refine below_drewN ?_ _ | refine Below.alloc ?_ (by first | (simp; done) | omega | (simp; omega)) _ | refine Below.setCell ?_ (by first | (simp; done) | omega | (simp; omega)) _))⟩

set_option maxHeartbeats 2000000 in
set_option maxRecDepth 100000 in
theorem idx_oth {S : Nat → Prop} {w : World} {A : Option Addr} {n c : Nat} {l : List Col} {S' S2 : Nat → Prop} {M dp : Nat} {T : Nat} {c0 : Col} {E : Option Addr} {en ec : Nat} (hT : w.cell? ⟨T, 1, none⟩ = some (.slice E en ec)) (hcs : Arr 8 (colP M dp S' w) S2 w E en ec l) (hl0 : ∀ x ∈ l, l[0]? = some c0) (hl : Arr 8 (colP M dp S' w) S w A n c l) :
    Calls Tryd.prog 42 #[.slice A n c, .func (.func 61) #[] #[.pointer (some ⟨T, 0, none⟩)]] w fun e w' => ∃ q : Int, e = .returned (.int .i64 q) ∧ ((q = -1 ∧ ∀ x ∈ l, (otherC c0 x) = false) ∨ ∃ k x, q = ((k : Nat) : Int) ∧ l[k]? = some x ∧ (otherC c0 x) = true ∧ ∀ y ∈ l.take k, (otherC c0 y) = false) ∧ Below w.heap.size w w' := by
  have hlen := Lib.hid hl.len
  have hcap := hl.cap
  have hcm := hl.capMax
  have HS := Lib.hid (hl.mono (S' := fun b => S b ∧ b < w.heap.size) fun _ h1 h2 => ⟨h1, h2⟩); clear hl
  have HT := Lib.hid hT; clear hT
  have HCS := Lib.hid hcs; clear hcs
  have HL0 := Lib.hid hl0; clear hl0
  go_enter Tryd.func42, Tryd.ntmps42
  go_wp2_with fail
  go_loopw [8] (fun i wr => ∃ k : Nat, k ≤ n ∧ i = .int .i64 (k : Nat) ∧ Hid (∀ x ∈ l.take k, (otherC c0 x) = false) ∧ Below w.heap.size w wr) (fun i _ => n - (intOf i).toNat)
  case atStart => exact ⟨0, by omega, rfl, fun x hx => (by cases hx), (by repeat (first | exact Below.refl _ _ | assumption | refine Below.drew ?_ | refine below_drewN ?_ _ | refine Below.alloc ?_ (by first | (simp; done) | omega | (simp; omega)) _ | refine Below.setCell ?_ (by first | (simp; done) | omega | (simp; omega)) _))⟩
  case round =>
    obtain ⟨k, hk, rfl, HQ, hbel⟩ := hrel
    have hsz := hbel.size
    by_cases hlt : k < n
    · obtain ⟨x, hx⟩ : ∃ x, l[k]? = some x := ⟨_, List.getElem?_eq_getElem (by have := hlen.out; omega)⟩
      have HS1 := Lib.hid (HS.out.after hbel)
      obtain ⟨b, off, rfl, hSb, hbs, HC⟩ := HS1.out.at (by decide) (by omega)
      obtain ⟨v, hv1, hp, hv2⟩ := HC k x hx
      obtain ⟨A1, n1, k1, A2, n2, k2, rfl, _⟩ := hp
      have hc0 := hv2 0 _ rfl
      have hc1 := hv2 1 _ rfl
      have hc2 := hv2 2 _ rfl
      have hc3 := hv2 3 _ rfl
      have hc4 := hv2 4 _ rfl
      have hc5 := hv2 5 _ rfl
      have hc6 := hv2 6 _ rfl
      have hc7 := hv2 7 _ rfl
      simp only [Nat.add_zero] at hc0
      clear hv1 hv2 HC
      have HX := Lib.hid hx; clear hx
      obtain ⟨mv, hmv⟩ : ∃ mv, (otherC c0 x) = mv := ⟨_, rfl⟩
      have HMV := Lib.hid hmv; clear hmv
      go_wp2_with fail
      refine (fits1_any (kcell hbel HT.out) (HCS.out.after hbel) (HL0.out x (List.mem_of_getElem? HX.out))).mono ?_
      rintro e1 w1 ⟨rfl, hb1⟩
      rw [HMV.out]
      cases mv with
      | true =>
        go_wp2_with fail
        go_ret
        exact ⟨_, rfl, .inr ⟨k, x, rfl, HX.out, HMV.out, HQ.out⟩, seqB hbel hb1⟩
      | false =>
        go_wp2_with fail
        refine ⟨⟨k + 1, by omega, by go_num, fun y hy => ?_, seqB hbel hb1⟩, by simp [intOf]; omega⟩
        obtain ⟨hkl, hxk⟩ := List.getElem?_eq_some_iff.1 HX.out
        rw [List.take_succ_eq_append_getElem hkl, hxk] at hy
        rcases List.mem_append.1 hy with hy | hy
        · exact HQ.out y hy
        · rw [List.mem_singleton.1 hy]; exact HMV.out
    · obtain rfl : k = n := by omega
      have HALL : Hid (∀ x ∈ l, (otherC c0 x) = false) := by
        have h0 : l.take k = l := List.take_of_length_le (by have := hlen.out; omega)
        have h1 := HQ.out
        rwa [h0] at h1
      go_wp2_with fail
      go_ret
      exact ⟨_, rfl, .inl ⟨rfl, HALL.out⟩, hbel⟩

set_option maxHeartbeats 2000000 in
set_option maxRecDepth 100000 in
theorem con_oth {S : Nat → Prop} {w : World} {A : Option Addr} {n c : Nat} {l : List Col} {S' S2 : Nat → Prop} {M dp : Nat} {T : Nat} {c0 : Col} {E : Option Addr} {en ec : Nat} (hT : w.cell? ⟨T, 1, none⟩ = some (.slice E en ec)) (hcs : Arr 8 (colP M dp S' w) S2 w E en ec l) (hl0 : ∀ x ∈ l, l[0]? = some c0) (hl : Arr 8 (colP M dp S' w) S w A n c l) :
    Calls Tryd.prog 65 #[.slice A n c, .func (.func 61) #[] #[.pointer (some ⟨T, 0, none⟩)]] w fun e w' => e = .returned (.bool (l.any fun x => (otherC c0 x))) ∧ Below w.heap.size w w' := by
  have HL := Lib.hid hl; clear hl
  have HT := Lib.hid hT; clear hT
  have HCS := Lib.hid hcs; clear hcs
  have HL0 := Lib.hid hl0; clear hl0
  obtain ⟨v, hv⟩ : ∃ v, (l.any fun x => (otherC c0 x)) = v := ⟨_, rfl⟩
  have HV := Lib.hid hv; clear hv
  go_enter Tryd.func65, Tryd.ntmps65
  go_wp2_with fail
  refine (idx_oth HT.out HCS.out HL0.out HL.out).mono ?_
  rintro e w1 ⟨q, rfl, hq, hb1⟩
  rcases hq with ⟨rfl, hq⟩ | ⟨k, x, rfl, hq, hx, hy⟩
  · have hv0 : v = false := by rw [← HV.out, List.any_eq_false]; intro x hx; rw [hq x hx]; decide
    have HV0 := Lib.hid hv0
    clear hq hv0
    go_wp2_with fail
    go_ret
    exact ⟨by rw [HV.out, HV0.out]; rfl, hb1⟩
  · have hv0 : v = true := by rw [← HV.out, List.any_eq_true]; exact ⟨x, List.mem_of_getElem? hq, hx⟩
    have HV0 := Lib.hid hv0
    clear hq hx hy hv0
    go_wp2_with fail
    go_ret
    exact ⟨by rw [HV.out, HV0.out]; first | rfl | simp, hb1⟩


set_option maxRecDepth 100000 in
theorem cell1_any {w : World} {N : Nat} {x : Col} {nm : B} {A1 A2 : Option Addr} {n1 k1 n2 k2 : Nat} (hN : w.cell? ⟨N, 0, none⟩ = some (.string (str nm))) :
    Calls Tryd.prog 43 #[.agg #[.string (str x.space), .string (str x.table), .string (str x.name), .int .u16 (x.type.id : Int), .string (str x.type.space), .string (str x.type.name), .slice A1 n1 k1, .slice A2 n2 k2], .pointer (some ⟨N, 0, none⟩)] w fun e w' => e = .returned (.bool (x.name == nm)) ∧ Below w.heap.size w w' := by
  have hlN := World.block_lt_of_cell? w ⟨N, 0, none⟩ hN
  go_enter Tryd.func43, Tryd.ntmps43
  go_wp2_with fail
  go_ret
  exact ⟨by first | rfl | simp, (by repeat (first | exact Below.refl _ _ | assumption | refine Below.drew ?_ | refine below_drewN ?_ _ | refine Below.alloc ?_ (by first | (simp; done) | omega | (simp; omega)) _ | refine Below.setCell ?_ (by first | (simp; done) | omega | (simp; omega)) _))⟩

set_option maxHeartbeats 2000000 in
set_option maxRecDepth 100000 in
theorem idx_nam {S : Nat → Prop} {w : World} {A : Option Addr} {n c : Nat} {l : List Col} {S' : Nat → Prop} {M dp : Nat} {w0 : World} {N : Nat} {nm : B} (hN : w.cell? ⟨N, 0, none⟩ = some (.string (str nm))) (hl : Arr 8 (colP M dp S' w0) S w A n c l) :
    Calls Tryd.prog 42 #[.slice A n c, .func (.func 43) #[] #[.pointer (some ⟨N, 0, none⟩)]] w fun e w' => ∃ q : Int, e = .returned (.int .i64 q) ∧ ((q = -1 ∧ ∀ x ∈ l, (x.name == nm) = false) ∨ ∃ k x, q = ((k : Nat) : Int) ∧ l[k]? = some x ∧ (x.name == nm) = true ∧ ∀ y ∈ l.take k, (y.name == nm) = false) ∧ Below w.heap.size w w' := by
  have hlen := Lib.hid hl.len
  have hcap := hl.cap
  have hcm := hl.capMax
  have HS := Lib.hid (hl.mono (S' := fun b => S b ∧ b < w.heap.size) fun _ h1 h2 => ⟨h1, h2⟩); clear hl
  have HN := Lib.hid hN; clear hN
  go_enter Tryd.func42, Tryd.ntmps42
  go_wp2_with fail
  go_loopw [8] (fun i wr => ∃ k : Nat, k ≤ n ∧ i = .int .i64 (k : Nat) ∧ Hid (∀ x ∈ l.take k, (x.name == nm) = false) ∧ Below w.heap.size w wr) (fun i _ => n - (intOf i).toNat)
  case atStart => exact ⟨0, by omega, rfl, fun x hx => (by cases hx), (by repeat (first | exact Below.refl _ _ | assumption | refine Below.drew ?_ | refine below_drewN ?_ _ | refine Below.alloc ?_ (by first | (simp; done) | omega | (simp; omega)) _ | refine Below.setCell ?_ (by first | (simp; done) | omega | (simp; omega)) _))⟩
  case round =>
    obtain ⟨k, hk, rfl, HQ, hbel⟩ := hrel
    have hsz := hbel.size
    by_cases hlt : k < n
    · obtain ⟨x, hx⟩ : ∃ x, l[k]? = some x := ⟨_, List.getElem?_eq_getElem (by have := hlen.out; omega)⟩
      have HS1 := Lib.hid (HS.out.after hbel)
      obtain ⟨b, off, rfl, hSb, hbs, HC⟩ := HS1.out.at (by decide) (by omega)
      obtain ⟨v, hv1, hp, hv2⟩ := HC k x hx
      obtain ⟨A1, n1, k1, A2, n2, k2, rfl, _⟩ := hp
      have hc0 := hv2 0 _ rfl
      have hc1 := hv2 1 _ rfl
      have hc2 := hv2 2 _ rfl
      have hc3 := hv2 3 _ rfl
      have hc4 := hv2 4 _ rfl
      have hc5 := hv2 5 _ rfl
      have hc6 := hv2 6 _ rfl
      have hc7 := hv2 7 _ rfl
      simp only [Nat.add_zero] at hc0
      clear hv1 hv2 HC
      have HX := Lib.hid hx; clear hx
      obtain ⟨mv, hmv⟩ : ∃ mv, (x.name == nm) = mv := ⟨_, rfl⟩
      have HMV := Lib.hid hmv; clear hmv
      go_wp2_with fail
      refine (cell1_any (kcell hbel HN.out)).mono ?_
      rintro e1 w1 ⟨rfl, hb1⟩
      rw [HMV.out]
      cases mv with
      | true =>
        go_wp2_with fail
        go_ret
        exact ⟨_, rfl, .inr ⟨k, x, rfl, HX.out, HMV.out, HQ.out⟩, seqB hbel hb1⟩
      | false =>
        go_wp2_with fail
        refine ⟨⟨k + 1, by omega, by go_num, fun y hy => ?_, seqB hbel hb1⟩, by simp [intOf]; omega⟩
        obtain ⟨hkl, hxk⟩ := List.getElem?_eq_some_iff.1 HX.out
        rw [List.take_succ_eq_append_getElem hkl, hxk] at hy
        rcases List.mem_append.1 hy with hy | hy
        · exact HQ.out y hy
        · rw [List.mem_singleton.1 hy]; exact HMV.out
    · obtain rfl : k = n := by omega
      have HALL : Hid (∀ x ∈ l, (x.name == nm) = false) := by
        have h0 : l.take k = l := List.take_of_length_le (by have := hlen.out; omega)
        have h1 := HQ.out
        rwa [h0] at h1
      go_wp2_with fail
      go_ret
      exact ⟨_, rfl, .inl ⟨rfl, HALL.out⟩, hbel⟩


set_option maxHeartbeats 4000000 in
set_option maxRecDepth 100000 in
theorem tfits_any {S : Nat → Prop} {M dp : Nat} {w : World} {c d q : Pl3} {t : Tb} {one : Bool} (ht : TbR M dp S w c d q t) :
    Calls Tryd.prog 31 #[.agg (tabV t c d q).toArray, .bool one] w fun e w' => e = .returned (.bool (fitsT t one)) ∧ Below w.heap.size w w' := by
  have HT := Lib.hid ht
  have HCL := Lib.hid ht.cl.len
  have HRL := Lib.hid ht.rw.len
  clear ht
  obtain ⟨k1, hk1⟩ : ∃ k, decide (t.count < 0) = k := ⟨_, rfl⟩
  obtain ⟨k2, hk2⟩ : ∃ k, decide (4096 < t.count) = k := ⟨_, rfl⟩
  obtain ⟨k3, hk3⟩ : ∃ k, decide ((4096 : Int) < (q.2.1 : Int)) = k := ⟨_, rfl⟩
  obtain ⟨k4, hk4⟩ : ∃ k, ((c.2.1 : Int) != 0) = k := ⟨_, rfl⟩
  obtain ⟨k5, hk5⟩ : ∃ k, ((c.2.1 : Int) != t.count) = k := ⟨_, rfl⟩
  have hf : fitsT t one = (!k1 && !k2 && !k3 && !(k4 && k5) && (!(one && !sameT t.cols) && t.rows.all (rowOk t.count))) := by
    unfold fitsT
    rw [← hk1, ← hk2, ← hk3, ← hk4, ← hk5, HCL.out, HRL.out]
    congr 1
    rw [Bool.eq_iff_iff]
    simp only [Bool.and_eq_true, Bool.not_eq_true', Bool.and_eq_false_iff, decide_eq_true_eq, decide_eq_false_iff_not, bne_eq_false_iff_eq]
    omega
  rw [all_odd, all_other] at hf
  have HF := Lib.hid hf; clear hf
  show Calls Tryd.prog 31 #[.agg #[.int .i64 t.count, .slice c.1 c.2.1 c.2.2, .bool t.more, .int .i64 t.state.kind, .slice d.1 d.2.1 d.2.2, .slice q.1 q.2.1 q.2.2], .bool one] w _
  go_enter Tryd.func31, Tryd.ntmps31
  cases k1 with
  | true => go_wp2_with fail; go_ret; exact ⟨by rw [HF.out]; rfl, (by repeat (first | exact Below.refl _ _ | assumption | refine Below.drew ?_ | refine below_drewN ?_ _ | refine Below.alloc ?_ (by first | (simp; done) | omega | (simp; omega)) _ | refine Below.setCell ?_ (by first | (simp; done) | omega | (simp; omega)) _))⟩
  | false =>
  cases k2 with
  | true => go_wp2_with fail; go_ret; exact ⟨by rw [HF.out]; rfl, (by repeat (first | exact Below.refl _ _ | assumption | refine Below.drew ?_ | refine below_drewN ?_ _ | refine Below.alloc ?_ (by first | (simp; done) | omega | (simp; omega)) _ | refine Below.setCell ?_ (by first | (simp; done) | omega | (simp; omega)) _))⟩
  | false =>
  cases k3 with
  | true => go_wp2_with fail; go_ret; exact ⟨by rw [HF.out]; rfl, (by repeat (first | exact Below.refl _ _ | assumption | refine Below.drew ?_ | refine below_drewN ?_ _ | refine Below.alloc ?_ (by first | (simp; done) | omega | (simp; omega)) _ | refine Below.setCell ?_ (by first | (simp; done) | omega | (simp; omega)) _))⟩
  | false =>
  have hk45 : (k4 && k5) = true ∨ (k4 && k5) = false := by cases k4 && k5 <;> simp
  rcases hk45 with h45 | h45
  · obtain ⟨rfl, rfl⟩ : k4 = true ∧ k5 = true := by simpa using h45
    go_wp2_with fail; go_ret; exact ⟨by rw [HF.out]; rfl, (by repeat (first | exact Below.refl _ _ | assumption | refine Below.drew ?_ | refine below_drewN ?_ _ | refine Below.alloc ?_ (by first | (simp; done) | omega | (simp; omega)) _ | refine Below.setCell ?_ (by first | (simp; done) | omega | (simp; omega)) _))⟩
  · rw [h45] at HF
    have HTL : Hid (Below w.heap.size w w) := Below.refl _ _
    cases k4 with
    | false =>
      clear h45
      cases one with
      | false =>
        go_wp2_with fail
        refine (con_row (T := w.heap.size) (F := w.heap.size + 1) (m := t.count) (by go_simp) (by go_simp) ((goesArrD goesRow).after HT.out.rw (by repeat (first | exact Below.refl _ _ | assumption | refine Below.drew ?_ | refine below_drewN ?_ _ | refine Below.alloc ?_ (by first | (simp; done) | omega | (simp; omega)) _ | refine Below.setCell ?_ (by first | (simp; done) | omega | (simp; omega)) _)))).mono ?_
        rintro e w1 ⟨rfl, hb1⟩
        have HB1 : Hid (Below w.heap.size w w1) := Below.trans (by repeat (first | exact Below.refl _ _ | assumption | refine Below.drew ?_ | refine below_drewN ?_ _ | refine Below.alloc ?_ (by first | (simp; done) | omega | (simp; omega)) _ | refine Below.setCell ?_ (by first | (simp; done) | omega | (simp; omega)) _)) (hb1.mono (by simp; omega))
        clear hb1
        go_wp2_with fail
        go_ret
        exact ⟨by rw [HF.out]; first | rfl | simp, HB1.out⟩
      | true =>
        go_wp2_with fail
        refine (con_oth (T := w.heap.size) (c0 := t.cols.headD Col.none) (by go_simp) ((goesArrD goesCol).after HT.out.cl (by repeat (first | exact Below.refl _ _ | assumption | refine Below.drew ?_ | refine below_drewN ?_ _ | refine Below.alloc ?_ (by first | (simp; done) | omega | (simp; omega)) _ | refine Below.setCell ?_ (by first | (simp; done) | omega | (simp; omega)) _))) (by intro x hx; cases hcs : t.cols with | nil => rw [hcs] at hx; cases hx | cons y l => rfl) ((goesArrD goesCol).after HT.out.cl (by repeat (first | exact Below.refl _ _ | assumption | refine Below.drew ?_ | refine below_drewN ?_ _ | refine Below.alloc ?_ (by first | (simp; done) | omega | (simp; omega)) _ | refine Below.setCell ?_ (by first | (simp; done) | omega | (simp; omega)) _)))).mono ?_
        rintro e w1 ⟨rfl, hb1⟩
        have HB1 : Hid (Below w.heap.size w w1) := Below.trans (by repeat (first | exact Below.refl _ _ | assumption | refine Below.drew ?_ | refine below_drewN ?_ _ | refine Below.alloc ?_ (by first | (simp; done) | omega | (simp; omega)) _ | refine Below.setCell ?_ (by first | (simp; done) | omega | (simp; omega)) _)) (hb1.mono (by simp; omega))
        have kt5 : w1.cell? ⟨w.heap.size, 5, none⟩ = some (.slice q.1 q.2.1 q.2.2) := kcell hb1 (by go_simp)
        have kt0 : w1.cell? ⟨w.heap.size, 0, none⟩ = some (.int .i64 t.count) := kcell hb1 (by go_simp)
        have kf0 : w1.cell? ⟨w.heap.size + 1, 0, none⟩ = some (.func (.func 62) #[] #[]) := kcell hb1 (by go_simp)
        clear hb1
        obtain ⟨v, hv⟩ : ∃ v, (t.cols.any fun x => otherC (t.cols.headD Col.none) x) = v := ⟨_, rfl⟩
        rw [hv] at HF ⊢
        clear hv
        cases v with
        | true =>
          go_wp2_with fail
          go_ret
          exact ⟨by rw [HF.out]; first | rfl | simp, HB1.out⟩
        | false =>
          go_wp2_with fail
          refine (con_row (T := w.heap.size) (F := w.heap.size + 1) (m := t.count) kt0 kf0 ((goesArrD goesRow).after HT.out.rw HB1.out)).mono ?_
          rintro e w2 ⟨rfl, hb2⟩
          have HB2 : Hid (Below w.heap.size w w2) := Below.trans HB1.out (hb2.mono HB1.out.size)
          clear hb2 kt5 kt0 kf0
          go_wp2_with fail
          go_ret
          exact ⟨by rw [HF.out]; first | rfl | simp, HB2.out⟩
    | true =>
      obtain rfl : k5 = false := by simpa using h45
      clear h45
      cases one with
      | false =>
        go_wp2_with fail
        refine (con_row (T := w.heap.size) (F := w.heap.size + 1) (m := t.count) (by go_simp) (by go_simp) ((goesArrD goesRow).after HT.out.rw (by repeat (first | exact Below.refl _ _ | assumption | refine Below.drew ?_ | refine below_drewN ?_ _ | refine Below.alloc ?_ (by first | (simp; done) | omega | (simp; omega)) _ | refine Below.setCell ?_ (by first | (simp; done) | omega | (simp; omega)) _)))).mono ?_
        rintro e w1 ⟨rfl, hb1⟩
        have HB1 : Hid (Below w.heap.size w w1) := Below.trans (by repeat (first | exact Below.refl _ _ | assumption | refine Below.drew ?_ | refine below_drewN ?_ _ | refine Below.alloc ?_ (by first | (simp; done) | omega | (simp; omega)) _ | refine Below.setCell ?_ (by first | (simp; done) | omega | (simp; omega)) _)) (hb1.mono (by simp; omega))
        clear hb1
        go_wp2_with fail
        go_ret
        exact ⟨by rw [HF.out]; first | rfl | simp, HB1.out⟩
      | true =>
        go_wp2_with fail
        refine (con_oth (T := w.heap.size) (c0 := t.cols.headD Col.none) (by go_simp) ((goesArrD goesCol).after HT.out.cl (by repeat (first | exact Below.refl _ _ | assumption | refine Below.drew ?_ | refine below_drewN ?_ _ | refine Below.alloc ?_ (by first | (simp; done) | omega | (simp; omega)) _ | refine Below.setCell ?_ (by first | (simp; done) | omega | (simp; omega)) _))) (by intro x hx; cases hcs : t.cols with | nil => rw [hcs] at hx; cases hx | cons y l => rfl) ((goesArrD goesCol).after HT.out.cl (by repeat (first | exact Below.refl _ _ | assumption | refine Below.drew ?_ | refine below_drewN ?_ _ | refine Below.alloc ?_ (by first | (simp; done) | omega | (simp; omega)) _ | refine Below.setCell ?_ (by first | (simp; done) | omega | (simp; omega)) _)))).mono ?_
        rintro e w1 ⟨rfl, hb1⟩
        have HB1 : Hid (Below w.heap.size w w1) := Below.trans (by repeat (first | exact Below.refl _ _ | assumption | refine Below.drew ?_ | refine below_drewN ?_ _ | refine Below.alloc ?_ (by first | (simp; done) | omega | (simp; omega)) _ | refine Below.setCell ?_ (by first | (simp; done) | omega | (simp; omega)) _)) (hb1.mono (by simp; omega))
        have kt5 : w1.cell? ⟨w.heap.size, 5, none⟩ = some (.slice q.1 q.2.1 q.2.2) := kcell hb1 (by go_simp)
        have kt0 : w1.cell? ⟨w.heap.size, 0, none⟩ = some (.int .i64 t.count) := kcell hb1 (by go_simp)
        have kf0 : w1.cell? ⟨w.heap.size + 1, 0, none⟩ = some (.func (.func 62) #[] #[]) := kcell hb1 (by go_simp)
        clear hb1
        obtain ⟨v, hv⟩ : ∃ v, (t.cols.any fun x => otherC (t.cols.headD Col.none) x) = v := ⟨_, rfl⟩
        rw [hv] at HF ⊢
        clear hv
        cases v with
        | true =>
          go_wp2_with fail
          go_ret
          exact ⟨by rw [HF.out]; first | rfl | simp, HB1.out⟩
        | false =>
          go_wp2_with fail
          refine (con_row (T := w.heap.size) (F := w.heap.size + 1) (m := t.count) kt0 kf0 ((goesArrD goesRow).after HT.out.rw HB1.out)).mono ?_
          rintro e w2 ⟨rfl, hb2⟩
          have HB2 : Hid (Below w.heap.size w w2) := Below.trans HB1.out (hb2.mono HB1.out.size)
          clear hb2 kt5 kt0 kf0
          go_wp2_with fail
          go_ret
          exact ⟨by rw [HF.out]; first | rfl | simp, HB2.out⟩

end Go.Proofs.Sb

/- Walk over rows.Cell. Conditions: none. (written by gen_tas.py) -/
namespace Sb
/-- where the first column of a name is -/
def firstC (nm : B) : List Col → Option Nat
  | [] => none
  | c :: l => if c.name == nm then some 0 else (firstC nm l).map (· + 1)
theorem firstC_none {nm : B} : ∀ {l : List Col}, (∀ x ∈ l, (x.name == nm) = false) → firstC nm l = none
  | [], _ => rfl
  | c :: l, h => by
    have h1 := h c (List.mem_cons_self ..)
    rw [firstC, if_neg (by rw [h1]; decide), firstC_none fun x hx => h x (List.mem_cons_of_mem _ hx)]
    rfl
theorem firstC_some {nm : B} : ∀ {l : List Col} {k : Nat} {x : Col}, l[k]? = some x → (x.name == nm) = true → (∀ y ∈ l.take k, (y.name == nm) = false) → firstC nm l = some k
  | [], _, _, h, _, _ => by cases h
  | c :: l, 0, x, h, h1, _ => by
    injection h with h
    subst h
    rw [firstC, if_pos h1]
  | c :: l, k + 1, x, h, h1, h2 => by
    have h3 := h2 c (by simp)
    rw [firstC, if_neg (by rw [h3]; decide), firstC_some (l := l) (k := k) (x := x) h h1 fun y hy => h2 y (by simp [hy])]
    rfl
theorem firstC_lt {nm : B} : ∀ {l : List Col} {k : Nat}, firstC nm l = some k → k < l.length
  | [], k, h => by cases h
  | c :: l, k, h => by
    rw [firstC] at h
    split at h
    · injection h with h; subst h; simp
    · cases hq : firstC nm l with
      | none => rw [hq] at h; cases h
      | some j =>
        rw [hq] at h
        have h : j + 1 = k := Option.some.inj h
        have := firstC_lt hq
        simp only [List.length_cons]
        omega
/-- a row's value of a column's name -/
def cellT (t : Tb) (row : Int) (nm : B) : Option Val := match firstC nm t.cols with
  | none => none
  | some k => if row < 0 then none else match t.rows[row.toNat]? with
    | none => none
    | some l => l[k]?
end Sb
namespace Go.Proofs.Sb
open Go.RowKit _root_.Sb
def zV : List Value := [.int .i64 0, .slice none 0 0]
set_option maxHeartbeats 8000000 in
set_option maxRecDepth 100000 in
theorem tCell_any {S : Nat → Prop} {M dp : Nat} {w : World} {c d q : Pl3} {t : Tb} {row : Int} {nm : B} (ht : TbR M dp S w c d q t) :
    Calls Tryd.prog 19 #[.agg (tabV t c d q).toArray, .int .i64 row, .string (str nm)] w fun e w' => ∃ A n k, e = .returned (.tuple #[.agg #[.int .i64 ((cellT t row nm).getD Val.none).kind, .slice A n k], .bool (cellT t row nm).isSome]) ∧ Sl S w' A n k ((cellT t row nm).getD Val.none).bytes ∧ Below w.heap.size w w' := by
  have HT := Lib.hid (ht.mono (S' := fun b => S b ∧ b < w.heap.size) fun b h1 h2 => ⟨h1, h2⟩)
  have HRL := Lib.hid ht.rw.len
  have hrcap := ht.rw.cap
  have hrcm := ht.rw.capMax
  clear ht
  obtain ⟨o, ho⟩ : ∃ o, o = cellT t row nm := ⟨_, rfl⟩
  have HO := Lib.hid ho
  rw [← ho]
  clear ho
  show Calls Tryd.prog 19 #[.agg #[.int .i64 t.count, .slice c.1 c.2.1 c.2.2, .bool t.more, .int .i64 t.state.kind, .slice d.1 d.2.1 d.2.2, .slice q.1 q.2.1 q.2.2], .int .i64 row, .string (str nm)] w _
  go_enter Tryd.func19, Tryd.ntmps19
  go_wp2_with fail
  refine (idx_nam (N := w.heap.size + 1) (nm := nm) (by go_simp) ((goesArrD goesCol).after HT.out.cl (by repeat (first | exact Below.refl _ _ | assumption | refine Below.drew ?_ | refine below_drewN ?_ _ | refine Below.alloc ?_ (by first | (simp; done) | omega | (simp; omega)) _ | refine Below.setCell ?_ (by first | (simp; done) | omega | (simp; omega)) _)))).mono ?_
  rintro e w1 ⟨i, rfl, hi, hb1⟩
  have hbw : Below w.heap.size w w1 := Below.trans (by repeat (first | exact Below.refl _ _ | assumption | refine Below.drew ?_ | refine below_drewN ?_ _ | refine Below.alloc ?_ (by first | (simp; done) | omega | (simp; omega)) _ | refine Below.setCell ?_ (by first | (simp; done) | omega | (simp; omega)) _)) (hb1.mono (by simp; omega))
  have HBW := Lib.hid hbw
  have k5 : w1.cell? ⟨w.heap.size, 5, none⟩ = some (.slice q.1 q.2.1 q.2.2) := kcell hb1 (by go_simp)
  have hR1 := (Bx.alloc ((w.alloc (.cells #[.int .i64 t.count, .slice c.1 c.2.1 c.2.2, .bool t.more, .int .i64 t.state.kind, .slice d.1 d.2.1 d.2.2, .slice q.1 q.2.1 q.2.2] 29)).alloc (.cells #[.string (str nm)] 9)) zV.toArray 26 (S := fun b => b = w.heap.size + 1 + 1) (by simp) (X := w.heap.size + 1 + 1) (by simp)).after hb1
  have HR1 := Lib.hid hR1
  have hz1 := hR1.lt
  have HI := Lib.hid hi
  clear hi hb1 hbw hR1
  have HTW := Lib.hid (goesTb.after HT.out HBW.out)
  rcases HI.out with ⟨rfl, hall⟩ | ⟨k, x, rfl, hx, hxn, hbe⟩
  · have ho : o = none := by rw [HO.out]; unfold cellT; rw [firstC_none hall]
    clear hall HO
    subst ho
    go_wp2_with (first | (refine wpList_built (by rfl) 26 _ (by rfl) zV.toArray (by kernel_rfl) ?_) | (refine wpList_storeB HR1.out (by rfl) 26 _ _ (by rfl) 0 zV (by rfl) (by rfl) (by kernel_rfl) (by show 0 + 2 ≤ 2; decide) (by rfl) ?_; intro wz hxz hgz; have HXZ := Lib.hid hxz; have HGZ := Lib.hid hgz; clear hxz hgz))
    refine bodyPost_ret (results_box (vs := zV) rfl HXZ.out (by rfl) (by rfl) _ Tryd.underlying26 rfl (by kernel_rfl)) rfl ?_
    exact ⟨none, 0, 0, rfl, Sl.nil, Below.grown1 HBW.out HGZ.out HBW.out.size (by omega)⟩
  · have hf : firstC nm t.cols = some k := firstC_some hx hxn hbe
    clear hx hxn hbe
    have HF := Lib.hid hf; clear hf
    by_cases hr0 : row < 0
    · have ho : o = none := by rw [HO.out]; unfold cellT; rw [HF.out]; simp only [if_pos hr0]
      have hd0 : decide (row < 0) = true := decide_eq_true hr0
      clear HO HF
      subst ho
      go_wp2_with (first | (refine wpList_built (by rfl) 26 _ (by rfl) zV.toArray (by kernel_rfl) ?_) | (refine wpList_storeB HR1.out (by rfl) 26 _ _ (by rfl) 0 zV (by rfl) (by rfl) (by kernel_rfl) (by show 0 + 2 ≤ 2; decide) (by rfl) ?_; intro wz hxz hgz; have HXZ := Lib.hid hxz; have HGZ := Lib.hid hgz; clear hxz hgz))
      refine bodyPost_ret (results_box (vs := zV) rfl HXZ.out (by rfl) (by rfl) _ Tryd.underlying26 rfl (by kernel_rfl)) rfl ?_
      exact ⟨none, 0, 0, rfl, Sl.nil, Below.grown1 HBW.out HGZ.out HBW.out.size (by omega)⟩
    · have hd0 : decide (row < 0) = false := decide_eq_false hr0
      obtain ⟨r, hr⟩ : ∃ r : Nat, row = (r : Int) := ⟨row.toNat, by omega⟩
      subst hr
      by_cases hrl : r < q.2.1
      · obtain ⟨l, hl⟩ : ∃ l, t.rows[r]? = some l := ⟨_, List.getElem?_eq_getElem (by have := HRL.out; omega)⟩
        have hac := HTW.out.rw.at (by decide) (by omega)
        obtain ⟨b, off, hbo, hSb, hbs, HC⟩ := hac
        obtain ⟨v, hv1, hp, hv2⟩ := HC r l hl
        obtain ⟨LA, LN, LK, rfl, hlr⟩ := hp
        have hc0 := hv2 0 _ rfl
        simp only [Nat.add_zero, Nat.mul_one] at hc0
        have HLR := Lib.hid hlr
        have HLL := Lib.hid hlr.len
        have hlc := hlr.cap
        have hlm := hlr.capMax
        clear hv1 hv2 HC hlr
        by_cases hkl : k < LN
        · obtain ⟨y, hy⟩ : ∃ y, l[k]? = some y := ⟨_, List.getElem?_eq_getElem (by have := HLL.out; omega)⟩
          have ho : o = some y := by rw [HO.out]; unfold cellT; rw [HF.out]; simp only [if_neg hr0, Int.toNat_natCast, hl, hy]
          obtain ⟨b2, off2, rfl, hSb2, hbs2, HC2⟩ := HLR.out.at (by decide) (by omega)
          obtain ⟨v2, gv1, gp, gv2⟩ := HC2 k y hy
          obtain ⟨YA, YN, YK, rfl, hyr⟩ := gp
          have hy0 := gv2 0 _ rfl
          have hy1 := gv2 1 _ rfl
          simp only [Nat.add_zero] at hy0
          have HY := Lib.hid hyr
          clear HC2 gv1 gv2 hyr HO HF hy hl
          subst ho
          go_wp2_with (first | (refine wpList_storeB HR1.out (by rfl) 26 _ _ (by rfl) 0 [.int .i64 y.kind, .slice YA YN YK] (by rfl) (by rfl) (by kernel_rfl) (by show 0 + 2 ≤ 2; decide) (by rfl) ?_; intro wz hxz hgz; have HXZ := Lib.hid hxz; have HGZ := Lib.hid hgz; clear hxz hgz))
          refine bodyPost_ret (results_box (vs := [.int .i64 y.kind, .slice YA YN YK]) rfl HXZ.out (by rfl) (by rfl) _ Tryd.underlying26 rfl (by kernel_rfl)) rfl ?_
          exact ⟨YA, YN, YK, rfl, (goesSl.grown HY.out HGZ.out (fun b hb e => by have := hb.2; omega)).mono fun b hb _ => hb.1, Below.grown1 HBW.out HGZ.out HBW.out.size (by omega)⟩
        · have ho : o = none := by
            rw [HO.out]
            unfold cellT
            rw [HF.out]
            simp only [if_neg hr0, Int.toNat_natCast, hl]
            exact List.getElem?_eq_none (by have := HLL.out; omega)
          clear HO HF hl
          subst ho
          go_wp2_with (first | (refine wpList_built (by rfl) 26 _ (by rfl) zV.toArray (by kernel_rfl) ?_) | (refine wpList_storeB HR1.out (by rfl) 26 _ _ (by rfl) 0 zV (by rfl) (by rfl) (by kernel_rfl) (by show 0 + 2 ≤ 2; decide) (by rfl) ?_; intro wz hxz hgz; have HXZ := Lib.hid hxz; have HGZ := Lib.hid hgz; clear hxz hgz))
          refine bodyPost_ret (results_box (vs := zV) rfl HXZ.out (by rfl) (by rfl) _ Tryd.underlying26 rfl (by kernel_rfl)) rfl ?_
          exact ⟨none, 0, 0, rfl, Sl.nil, Below.grown1 HBW.out HGZ.out HBW.out.size (by omega)⟩
      · have ho : o = none := by
          rw [HO.out]
          unfold cellT
          rw [HF.out]
          simp only [if_neg hr0, Int.toNat_natCast]
          rw [List.getElem?_eq_none (by have := HRL.out; omega)]
        clear HO HF
        subst ho
        go_wp2_with (first | (refine wpList_built (by rfl) 26 _ (by rfl) zV.toArray (by kernel_rfl) ?_) | (refine wpList_storeB HR1.out (by rfl) 26 _ _ (by rfl) 0 zV (by rfl) (by rfl) (by kernel_rfl) (by show 0 + 2 ≤ 2; decide) (by rfl) ?_; intro wz hxz hgz; have HXZ := Lib.hid hxz; have HGZ := Lib.hid hgz; clear hxz hgz))
        refine bodyPost_ret (results_box (vs := zV) rfl HXZ.out (by rfl) (by rfl) _ Tryd.underlying26 rfl (by kernel_rfl)) rfl ?_
        exact ⟨none, 0, 0, rfl, Sl.nil, Below.grown1 HBW.out HGZ.out HBW.out.size (by omega)⟩
end Go.Proofs.Sb
