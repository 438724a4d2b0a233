/- Walk over request.writer's values. Conditions: sums of lengths up to 2^47. (written by gen_rqwv.py) -/
import Derived.Test.YtdgmkmadlnmhbaaRqa
import Derived.Test.YtdgmkmadlnmhbaaRqi
set_option linter.unusedVariables false
set_option linter.unusedSimpArgs false
namespace Sb
/-- a value's parts, with a name or without -/
def elsQ (names : List B) (l : List Val) : List (B × Val) := if names = [] then l.map (fun v => ([], v)) else names.zip l
def entQ (named : Bool) (p : B × Val) : Wr := bothW (if named then text p.1 else .ok []) (value p.2)
def valsQ (names : List B) (l : List Val) : Wr := bothW (cntQ l.length) (putsM (entQ (decide (names ≠ []))) (elsQ names l))
def costE : List (B × Val) → Nat | [] => 0 | p :: r => 65541 + p.2.bytes.length + costE r
theorem text_le (s : B) : lenW (text s) ≤ 65537 := by
  cases h : text s with
  | error e => exact Nat.zero_le _
  | ok b => have := (text_len h).1; exact this
theorem value_le (v : Val) : lenW (value v) ≤ 4 + v.bytes.length := by
  cases h : value v with
  | error e => exact Nat.zero_le _
  | ok b => exact value_len h
theorem ent_le (nm : Bool) (p : B × Val) : lenW (entQ nm p) ≤ 65541 + p.2.bytes.length := by
  unfold entQ
  have h1 := lenW_both (if nm then text p.1 else .ok []) (value p.2)
  have h2 := value_le p.2
  have h3 : lenW (if nm then text p.1 else .ok []) ≤ 65537 := by
    cases nm with
    | true => exact text_le p.1
    | false => exact Nat.zero_le _
  omega
theorem putsM_cons {α : Type} (f : α → Wr) (x : α) (l : List α) : putsM f (x :: l) = bothW (f x) (putsM f l) := by
  simp only [putsM, bothW]
theorem puts_le (nm : Bool) : ∀ l : List (B × Val), lenW (putsM (entQ nm) l) ≤ costE l
  | [] => Nat.zero_le _
  | p :: r => by
    rw [putsM_cons]
    have h1 := lenW_both (entQ nm p) (putsM (entQ nm) r)
    have h2 := ent_le nm p
    have h3 := puts_le nm r
    show _ ≤ 65541 + p.2.bytes.length + costE r
    omega
theorem cost_take : ∀ (l : List (B × Val)) (k : Nat), costE (l.take k) ≤ costE l
  | [], k => by simp [costE]
  | p :: r, 0 => Nat.zero_le _
  | p :: r, k + 1 => by
    have := cost_take r k
    show 65541 + p.2.bytes.length + costE (r.take k) ≤ 65541 + p.2.bytes.length + costE r
    omega
theorem cost_mem : ∀ {l : List (B × Val)} {p : B × Val}, p ∈ l → 65541 + p.2.bytes.length ≤ costE l
  | q :: r, p, h => by
    show _ ≤ 65541 + q.2.bytes.length + costE r
    rcases List.mem_cons.1 h with rfl | h
    · omega
    · have := cost_mem h; omega
theorem putsM_snoc {α : Type} (f : α → Wr) : ∀ {l : List α} {k : Nat} {x : α}, l[k]? = some x → putsM f (l.take (k + 1)) = bothW (putsM f (l.take k)) (f x)
  | [], k, x, h => by simp at h
  | y :: r, 0, x, h => by
    injection h with h
    subst h
    show putsM f [y] = bothW (.ok []) (f y)
    rw [putsM_cons]
    cases f y <;> simp [bothW, putsM]
  | y :: r, k + 1, x, h => by
    show putsM f (y :: r.take (k + 1)) = bothW (putsM f (y :: r.take k)) (f x)
    rw [putsM_cons, putsM_cons, putsM_snoc f (k := k) (by simpa using h), bothW_assoc]
theorem putsM_part {α : Type} (f : α → Wr) : ∀ (l : List α) (k : Nat) {e : Int} (s : Wr), bothW s (putsM f (l.take k)) = .error e → bothW s (putsM f l) = .error e
  | [], k, e, s, h => by simpa using h
  | y :: r, 0, e, s, h => by
    have h : bothW s (.ok []) = .error e := h
    rw [bothQ_nil] at h
    rw [h]; rfl
  | y :: r, k + 1, e, s, h => by
    have h : bothW s (putsM f (y :: r.take k)) = .error e := h
    rw [putsM_cons, ← bothW_assoc] at h
    rw [putsM_cons, ← bothW_assoc]
    exact putsM_part f r k _ h
theorem els_len {names : List B} {l : List Val} (h : names = [] ∨ names.length = l.length) : (elsQ names l).length = l.length := by
  unfold elsQ
  split
  · simp
  · rename_i h0
    rcases h with h | h
    · exact absurd h h0
    · simp [h]
theorem els_get {names : List B} {l : List Val} {k : Nat} {p : B × Val} (hp : (elsQ names l)[k]? = some p) : l[k]? = some p.2 ∧ (names ≠ [] → names[k]? = some p.1) ∧ (names = [] → p.1 = []) := by
  unfold elsQ at hp
  split at hp
  · rename_i h0
    rw [List.getElem?_map] at hp
    cases h : l[k]? with
    | none => rw [h] at hp; cases hp
    | some v => rw [h] at hp; injection hp with hp; subst hp; exact ⟨rfl, fun h => absurd h0 h, fun _ => rfl⟩
  · rename_i h0
    rw [List.getElem?_zip_eq_some] at hp
    exact ⟨hp.2, fun _ => hp.1, fun h => absurd h h0⟩
end Sb
namespace Go.Proofs.Sb
open Go.RowKit _root_.Sb
theorem WrAt.cellE {T : Nat → Prop} {w : World} {Y : Nat} {s : Wr} (h : WrAt T w Y s) : w.cell? ⟨Y, 1, none⟩ = some (.int .i64 (werr s)) := by
  obtain ⟨A, n, c, bs, h1, h2, h3, h4, h5⟩ := h.ex
  exact h2.c 1 _ rfl
theorem WrAt.ne0 {T : Nat → Prop} {w : World} {Y : Nat} {e : Int} (h : WrAt T w Y (.error e)) : e ≠ 0 := by
  obtain ⟨A, n, c, bs, h1, h2, h3, h4, h5⟩ := h.ex
  exact h5 e rfl
set_option maxHeartbeats 8000000 in
set_option maxRecDepth 100000 in
theorem wvalues_any {S T : Nat → Prop} {w : World} {Y : Nat} {s : Wr} {A1 : Option Addr} {n1 c1 : Nat} {A2 : Option Addr} {n2 c2 : Nat} {l : List Val} {names : List B} (h : WrAt T w Y s) (hv : Arr 2 (valP S w) S w A1 n1 c1 l) (hn : Arr 1 strP S w A2 n2 c2 names) (hS : ∀ b, S b → b < w.heap.size ∧ ¬ T b) (hnm : names = [] ∨ names.length = l.length) (hl : lenW s + 2 * costE (elsQ names l) ≤ 140737488350000) :
    Calls Try.prog 61 #[.pointer (some ⟨Y, 0, none⟩), .slice A1 n1 c1, .slice A2 n2 c2] w fun e w' => e = .returned (.tuple #[]) ∧ ∃ T', WS w T w' Y (bothW s (valsQ names l)) T' := by
  have HA := Lib.hid (WS.refl h); clear h
  have HL := Lib.hid hv.len
  have HN := Lib.hid hn.len
  have hn1 : n1 ≤ 9223372036854775807 := Nat.le_trans hv.cap hv.capMax
  have HV := Lib.hid hv; clear hv
  have HNM := Lib.hid hn; clear hn
  have HS := Lib.hid hS; clear hS
  have HS9 := Lib.hid (fun b (h : S b) => (HS.out b h).2)
  have HE := Lib.hid (els_len hnm)
  have HQ := Lib.hid hnm; clear hnm
  obtain ⟨els, hels⟩ : ∃ x, x = elsQ names l := ⟨_, rfl⟩
  obtain ⟨f, hf⟩ : ∃ x, x = entQ (decide (names ≠ [])) := ⟨_, rfl⟩
  have HG : Hid (∀ (k : Nat) (p : B × Val), els[k]? = some p → l[k]? = some p.2 ∧ (names ≠ [] → names[k]? = some p.1) ∧ (names = [] → p.1 = [])) := Lib.hid (fun k p h => els_get (by rw [← hels]; exact h))
  have HPL : Hid (∀ k, lenW (putsM f (els.take k)) ≤ costE els) := Lib.hid (fun k => by rw [hf]; exact Nat.le_trans (puts_le _ _) (cost_take _ _))
  have HV1 : Hid (valsQ names l = bothW (cntQ n1) (putsM f els)) := Lib.hid (by rw [hf, hels, HL.out]; rfl)
  rw [← hels] at hl HE
  have HF := Lib.hid hf; clear hf
  clear hels
  rw [HV1.out]
  have hEn : els.length = n1 := by rw [HE.out, HL.out]
  have HEN := Lib.hid hEn; clear hEn
  have hC := cnt_len n1
  obtain ⟨cn, hcn⟩ : ∃ x, x = cntQ n1 := ⟨_, rfl⟩
  rw [← hcn] at hC ⊢
  have HCN := Lib.hid hcn; clear hcn
  go_enter Try.func61, Try.ntmps61
  go_wp2_with fail
  refine (wcount_any (n := n1) HA.out.at' (by omega) (by omega)).mono ?_
  rintro e w1 ⟨rfl, T1, hk⟩
  have HA1 := Lib.hid (HA.out.trans hk); clear hk
  rw [← HCN.out] at HA1
  go_wp2_with fail
  go_loopw [14] (fun i wr => ∃ k Tk, k ≤ n1 ∧ i = .int .i64 ((k : Nat) : Int) ∧ Hid (WS w T wr Y (bothW (bothW s cn) (putsM f (els.take k))) Tk)) (fun i _ => (n1 - intOf i).toNat)
  case atStart => exact ⟨0, T1, Nat.zero_le _, rfl, HA1.out.as (by show _ = bothW _ (.ok []); rw [bothQ_nil])⟩
  case round =>
    obtain ⟨k, Tk, hk, rfl, HW⟩ := hrel
    by_cases hlt : k < n1
    · obtain ⟨p, hp⟩ : ∃ p, els[k]? = some p := ⟨_, List.getElem?_eq_getElem (by rw [HEN.out]; exact hlt)⟩
      obtain ⟨hp2, hp1, hp0⟩ := HG.out k p hp
      have hcost := cost_mem (List.mem_of_getElem? hp)
      have hsn := putsM_snoc f hp
      have HP1 := Lib.hid hp1; clear hp1
      have HP0 := Lib.hid hp0; clear hp0
      have HSN := Lib.hid hsn; clear hsn hp
      have hlen : lenW (bothW (bothW s cn) (putsM f (els.take k))) ≤ lenW s + 2 + costE els := by
        have h1 := lenW_both (bothW s cn) (putsM f (els.take k)); have h2 := lenW_both s cn; have h3 := HPL.out k; omega
      obtain ⟨st, hst⟩ : ∃ x, x = bothW (bothW s cn) (putsM f (els.take k)) := ⟨_, rfl⟩
      rw [← hst] at HW hlen
      have HST := Lib.hid hst; clear hst
      have hvr := HW.out.keep goesArrV HV.out HS9.out
      obtain ⟨g1, o1, rfl, hs1, hlt1, hcells⟩ := hvr.at (by decide) (by omega)
      obtain ⟨v, hvl, ⟨B1, m1, d1, rfl, hb1⟩, hvc⟩ := hcells.out k p.2 hp2
      have e0 := hvc 0 _ rfl
      have e1 := hvc 1 _ rfl
      simp only [Nat.add_zero] at e0
      clear hvl hvc hcells hvr hp2
      have HB := Lib.hid hb1; clear hb1
      have y1 := HW.out.at'.cellE
      have hY : Y < wr.heap.size := HW.out.at'.lt Y HW.out.at'.mem
      cases st with
      | error e =>
        have hne := HW.out.at'.ne0
        have hne2 : (e != 0) = true := bne_iff_ne.2 hne
        simp only [werr_error] at y1
        go_wp2_with fail
        refine bodyPost_ret (v := .tuple #[]) (results_none rfl _ _ _) rfl ?_
        exact ⟨rfl, Tk, (HW.out.after (by repeat (first | exact Below.refl _ _ | assumption | refine Below.drew ?_ | refine below_drewN ?_ _ | refine Below.alloc ?_ (by first | (simp; done) | omega | (simp; omega)) _ | refine Below.setCell ?_ (by first | (simp; done) | omega | (simp; omega)) _))).as (by rw [← bothW_assoc]; exact (putsM_part f els k _ HST.out.symm).symm)⟩
      | ok b0 =>
        simp only [werr_ok] at y1
        have hm1 : m1 ≤ 140737488350000 := by have := HB.out.len; omega
        by_cases hz : names = []
        · have hn20 : n2 = 0 := by rw [HN.out, hz]; rfl
          subst hn20
          have HZ := Lib.hid hz; clear hz
          go_wp2_with fail
          refine (value_any (v := p.2) (HB.out.after (by repeat (first | exact Below.refl _ _ | assumption | refine Below.drew ?_ | refine below_drewN ?_ _ | refine Below.alloc ?_ (by first | (simp; done) | omega | (simp; omega)) _ | refine Below.setCell ?_ (by first | (simp; done) | omega | (simp; omega)) _))) (by omega) (value p.2) rfl).mono ?_
          rintro ev wv ⟨A5, m5, c5, rfl, ho, hb⟩
          have HO := Lib.hid ho.slb; clear ho
          have HW5 := Lib.hid ((HW.out.after (by repeat (first | exact Below.refl _ _ | assumption | refine Below.drew ?_ | refine below_drewN ?_ _ | refine Below.alloc ?_ (by first | (simp; done) | omega | (simp; omega)) _ | refine Below.setCell ?_ (by first | (simp; done) | omega | (simp; omega)) _))).after hb); clear hb
          have hlv : (wval (value p.2)).length ≤ 4 + p.2.bytes.length := by rw [lenW_val]; exact value_le _
          have HRN := Lib.hid (fun x (e : value p.2 = .error x) => value_ne e)
          obtain ⟨rv, hrv⟩ : ∃ x, x = value p.2 := ⟨_, rfl⟩
          rw [← hrv] at HO hlv HRN ⊢
          have HRV := Lib.hid hrv; clear hrv
          go_wp2_with fail
          refine (wput_any HW5.out.at' HO.out rv rfl (fun b e => by rw [e]; rfl) HRN.out (by have : lenW (.ok b0) ≤ lenW s + 2 + costE els := hlen; omega)).mono ?_
          rintro e9 w9 ⟨rfl, T9, hk9⟩
          have HW9 := Lib.hid (HW5.out.trans hk9); clear hk9

          go_wp2_with fail
          refine ⟨⟨k + 1, T9, by omega, by congr 1, HW9.out.as ?_⟩, by simp [intOf]; omega⟩
          rw [HSN.out, ← bothW_assoc, ← HST.out, HF.out, HRV.out, HZ.out]
          show _ = bothW (.ok b0) (bothW (.ok []) (value p.2))
          cases value p.2 <;> rfl
        · have hnk := HP1.out hz
          have hk2 : k < n2 := by rw [HN.out]; exact (List.getElem?_eq_some_iff.1 hnk).1
          have hz2 : (0 : Int) < (n2 : Int) := by omega
          have HZ := Lib.hid hz; clear hz
          have hnr := HW.out.keep goesArr HNM.out HS9.out
          obtain ⟨g2, o2, rfl, hs2, hlt2, hcells2⟩ := hnr.at (by decide) (by omega)
          obtain ⟨v2, hvl2, ⟨rfl, hpl⟩, hvc2⟩ := hcells2.out k p.1 hnk
          have e2 := hvc2 0 _ rfl
          simp only [Nat.add_zero, Nat.mul_one] at e2
          clear hvl2 hvc2 hcells2 hnr hnk
          have HSK := Lib.hid (fun b (h : S b) => HW.out.not (HS.out b h).1 (HS.out b h).2)
          have HB7 : Hid (Bx (fun b => b = wr.heap.size) (wr.alloc (.cells #[.int .i64 p.2.kind, .slice B1 m1 d1] 28)) wr.heap.size [.int .i64 p.2.kind, .slice B1 m1 d1]) := Lib.hid (Bx.alloc wr #[.int .i64 p.2.kind, .slice B1 m1 d1] 28 (S := fun b => b = wr.heap.size) rfl rfl)
          go_wp2_with fail
          refine (text_any p.1 _ hpl (text p.1) rfl).mono ?_
          rintro e4 w4 ⟨A4, m4, c4, rfl, ho, hb⟩
          have HO4 := Lib.hid ho.slb; clear ho
          have HW4 := Lib.hid ((HW.out.after (by repeat (first | exact Below.refl _ _ | assumption | refine Below.drew ?_ | refine below_drewN ?_ _ | refine Below.alloc ?_ (by first | (simp; done) | omega | (simp; omega)) _ | refine Below.setCell ?_ (by first | (simp; done) | omega | (simp; omega)) _))).after hb)
          have HB4 := Lib.hid ((HB.out.after (by repeat (first | exact Below.refl _ _ | assumption | refine Below.drew ?_ | refine below_drewN ?_ _ | refine Below.alloc ?_ (by first | (simp; done) | omega | (simp; omega)) _ | refine Below.setCell ?_ (by first | (simp; done) | omega | (simp; omega)) _))).after hb)
          have HB74 := Lib.hid (HB7.out.after hb)
          clear hb
          have hlt4 : (wval (text p.1)).length ≤ 65537 := by rw [lenW_val]; exact text_le _
          have HRT := Lib.hid (fun x (e : text p.1 = .error x) => text_ne e)
          obtain ⟨rt, hrt⟩ : ∃ x, x = text p.1 := ⟨_, rfl⟩
          rw [← hrt] at HO4 hlt4 HRT ⊢
          have HRV4 := Lib.hid hrt; clear hrt
          go_wp2_with fail
          refine (wput_any HW4.out.at' HO4.out rt rfl (fun b e => by rw [e]; rfl) HRT.out (by have : lenW (.ok b0) ≤ lenW s + 2 + costE els := hlen; omega)).mono ?_
          rintro e6 w6 ⟨rfl, T6, hk6⟩
          have HB6 := Lib.hid (hk6.kept goesSl HB4.out HSK.out)
          have HB76 := Lib.hid (hk6.kept goesBx HB74.out fun b e => by rw [e]; exact HW.out.ne (Nat.le_refl _))
          have HW6 := Lib.hid (HW4.out.trans hk6); clear hk6
          have hlen6 : lenW (bothW (.ok b0) rt) ≤ lenW s + 2 + costE els + 65537 := by have h1 := lenW_both (.ok b0) rt; rw [lenW_val] at hlt4; omega
          have k0 := HB76.out.c 0 _ rfl
          have k1 := HB76.out.c 1 _ rfl
          obtain ⟨s6, hs6⟩ : ∃ x, x = bothW (.ok b0) rt := ⟨_, rfl⟩
          rw [← hs6] at HW6 hlen6
          have HS6 := Lib.hid hs6; clear hs6
          have q6 := HB76.out.lt
          go_wp2_with fail
          refine (value_any (v := p.2) HB6.out (by omega) (value p.2) rfl).mono ?_
          rintro ev wv ⟨A5, m5, c5, rfl, ho, hb⟩
          have HO := Lib.hid ho.slb; clear ho
          have HW5 := Lib.hid (HW6.out.after hb); clear hb
          have hlv : (wval (value p.2)).length ≤ 4 + p.2.bytes.length := by rw [lenW_val]; exact value_le _
          have HRN := Lib.hid (fun x (e : value p.2 = .error x) => value_ne e)
          obtain ⟨rv, hrv⟩ : ∃ x, x = value p.2 := ⟨_, rfl⟩
          rw [← hrv] at HO hlv HRN ⊢
          have HRV := Lib.hid hrv; clear hrv
          go_wp2_with fail
          refine (wput_any HW5.out.at' HO.out rv rfl (fun b e => by rw [e]; rfl) HRN.out (by omega)).mono ?_
          rintro e9 w9 ⟨rfl, T9, hk9⟩
          have HW9 := Lib.hid (HW5.out.trans hk9); clear hk9

          go_wp2_with fail
          refine ⟨⟨k + 1, T9, by omega, by congr 1, HW9.out.as ?_⟩, by simp [intOf]; omega⟩
          rw [HSN.out, ← bothW_assoc, ← HST.out, HF.out, HRV.out, HS6.out, HRV4.out, bothW_assoc]
          unfold entQ
          rw [if_pos (by simpa using HZ.out)]
    · obtain rfl : k = n1 := by omega
      go_wp2_with fail
      refine bodyPost_end (results_none rfl _ _ _) rfl ?_
      exact ⟨rfl, Tk, HW.out.as (by rw [← bothW_assoc, List.take_of_length_le (by rw [HEN.out]; exact Nat.le_refl _)])⟩
end Go.Proofs.Sb
