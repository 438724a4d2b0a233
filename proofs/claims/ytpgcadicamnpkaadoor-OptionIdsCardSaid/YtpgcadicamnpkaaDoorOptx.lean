/- Walks over signalboxref04.text, Text. Conditions: lengths up to 2^47. (written by gen_text4.py) -/
import Derived.Test.YtpgcadicamnpkaaDoorOptk
import Derived.Test.YtpgcadicamnpkaaDoorOptty
import Derived.Test.YtpgcadicamnpkaaDoorOpty
set_option linter.unusedVariables false
set_option linter.unusedSimpArgs false
namespace Sb
def tellR (d : Nat) (o : Opt) : Wr := if mayD d o = false then .error 1 else .ok (tellD d o)
theorem tellR_no {d : Nat} {o : Opt} (h : mayD d o = false) : tellR d o = .error 1 := if_pos h
theorem tellR_ok {d : Nat} {o : Opt} (h : mayD d o = true) : tellR d o = .ok (tellD d o) := if_neg (by rw [h]; decide)
theorem sum_map_le (d : Nat) (o : Opt) : (o.kids.map (nD d)).sum + 1 ≤ nD (d + 1) o := by simp only [nD]; omega
theorem join_lim {M d : Nat} {o : Opt} (h : capD M (d + 1) o) (hl : nD (d + 1) o * (2 * M + 30) ≤ 140737488355328) : (joinB (o.kids.map (tellD d))).length ≤ 140737488355328 := by
  have h1 := joinB_len (M := 2 * M + 30) (g := tellD d) (h := nD d) o.kids fun k hk => tellD_len M d k (h.2.2 k hk)
  have h2 : (o.kids.map (nD d)).sum * (2 * M + 30) ≤ nD (d + 1) o * (2 * M + 30) := Nat.mul_le_mul_right _ (by have := sum_map_le d o; omega)
  omega
theorem kid_lim {M d : Nat} {o x : Opt} (hx : x ∈ o.kids) (hl : nD (d + 1) o * (2 * M + 30) ≤ 140737488355328) : nD d x * (2 * M + 30) ≤ 140737488355328 :=
  Nat.le_trans (Nat.mul_le_mul_right _ (by have := nD_kid (d := d) hx; omega)) hl
theorem may_stop {d : Nat} {o x : Opt} (hx : x ∈ o.kids) (h : mayD d x = false) : mayD (d + 1) o = false := by
  rw [may_s]
  have : o.kids.all (mayD d) = false := by
    rw [← Bool.not_eq_true, List.all_eq_true]
    intro h2
    rw [h2 x hx] at h
    cases h
  rw [this, Bool.and_false]
theorem own_plain {o : Opt} (h : ownO o = true) (h0 : ¬ o.id = 0) (h1 : ¬ o.id = 48) (h2 : ¬ o.id = 32) (h3 : ¬ o.id = 33) (h4 : ¬ o.id = 34) (h5 : ¬ o.id = 49) : o.id ≤ 20 ∧ plainNames[o.id]? = some (nameB o.id) := by
  have h6 := own_id h
  have h7 : isPlain o.id = true := by
    unfold kn at h6
    by_cases h8 : o.id = 0 ∨ isPlain o.id = true
    · rcases h8 with h8 | h8
      · exact absurd h8 h0
      · exact h8
    · rw [if_neg h8, if_neg (by omega), if_neg (by omega), if_neg (by omega)] at h6
      exact absurd rfl h6
  have h9 : o.id ≤ 20 := by
    unfold isPlain at h7
    simp at h7
    omega
  refine ⟨h9, ?_⟩
  unfold nameB
  rw [List.getElem?_eq_getElem (by simp [plainNames]; omega)]
  rfl
end Sb
namespace Go.Proofs.Sb
open Go.RowKit _root_.Sb
/-- what signalboxref04.text does at types of so many levels -/
def Tell4 (d : Nat) : Prop := ∀ {S : Nat → Prop} {M : Nat} {A1 : Option Addr} {n1 c1 : Nat} {A2 : Option Addr} {n2 c2 : Nat} {o : Opt} {w : World}, OptR S w M d A1 n1 c1 A2 n2 c2 o → nD (d + 1) o * (2 * M + 30) ≤ 140737488355328 → ∀ r : Wr, tellR (d + 1) o = r →
    Calls Tryd.prog 27 #[optV o A1 n1 c1 A2 n2 c2] w fun e w' => e = .returned (.tuple #[.string (str (wval r)), .int .i64 (werr r)]) ∧ Below w.heap.size w w'

set_option maxHeartbeats 8000000 in
set_option maxRecDepth 100000 in
theorem text4_step {d : Nat} (ih : ∀ e, e < d → Tell4 e) {S : Nat → Prop} {M : Nat} {A1 : Option Addr} {n1 c1 : Nat} {A2 : Option Addr} {n2 c2 : Nat} {o : Opt} {w : World} (ho : OptR S w M d A1 n1 c1 A2 n2 c2 o) (hlim : nD (d + 1) o * (2 * M + 30) ≤ 140737488355328) (r : Wr) (hr : tellR (d + 1) o = r) :
    Calls Tryd.prog 27 #[optV o A1 n1 c1 A2 n2 c2] w fun e w' => e = .returned (.tuple #[.string (str (wval r)), .int .i64 (werr r)]) ∧ Below w.heap.size w w' := by
  have hl2 := ho.kids.len
  have hid := ho.id
  have hcap2 := ho.kids.cap
  have hcm2 := ho.kids.capMax
  have HL2 := Lib.hid hl2; clear hl2
  have HR := Lib.hid hr; clear hr
  have HCP := Lib.hid ho.to.cap
  have HJ := Lib.hid (join_lim HCP.out hlim)
  have HT := Lib.hid (show (tellD (d + 1) o).length ≤ 140737488355328 by have := tellD_len M (d + 1) o HCP.out; omega)
  have HLIM := Lib.hid hlim; clear hlim
  have HO := Lib.hid ho.lt; clear ho
  go_enter Tryd.func27, Tryd.ntmps27
  go_wp2_with fail
  refine (own4_any (HO.out.after (by repeat (first | exact Below.refl _ _ | assumption | refine Below.drew ?_ | refine below_drewN ?_ _ | refine Below.alloc ?_ (by first | (simp; done) | omega | (simp; omega)) _ | refine Below.setCell ?_ (by first | (simp; done) | omega | (simp; omega)) _)))).mono ?_
  rintro e w1 ⟨rfl, hb1⟩
  have HBX := Lib.hid hb1; clear hb1
  have p0 : w1.cell? ⟨w.heap.size, 0, none⟩ = some ((.int .u16 (o.id : Int))) := kcell HBX.out (by go_simp)
  have p1 : w1.cell? ⟨w.heap.size, 1, none⟩ = some (.string (str o.space)) := kcell HBX.out (by go_simp)
  have p2 : w1.cell? ⟨w.heap.size, 2, none⟩ = some (.string (str o.name)) := kcell HBX.out (by go_simp)
  have p3 : w1.cell? ⟨w.heap.size, 3, none⟩ = some (.slice A1 n1 c1) := kcell HBX.out (by go_simp)
  have p4 : w1.cell? ⟨w.heap.size, 4, none⟩ = some (.slice A2 n2 c2) := kcell HBX.out (by go_simp)
  have hz1 := HBX.out.size
  simp at hz1
  cases hown : ownO o with
  | false =>
    have HOW := Lib.hid hown; clear hown
    obtain rfl := HR.out.symm.trans (tellR_no (by rw [may_s, HOW.out]; rfl))
    have HB9 := Lib.hid (Below.trans ((by repeat (first | exact Below.refl _ _ | assumption | refine Below.drew ?_ | refine below_drewN ?_ _ | refine Below.alloc ?_ (by first | (simp; done) | omega | (simp; omega)) _ | refine Below.setCell ?_ (by first | (simp; done) | omega | (simp; omega)) _)) : Below w.heap.size w (w.alloc (boxO o A1 n1 c1 A2 n2 c2))) (HBX.out.mono (by simp)))
    go_wp2_with fail
    refine bodyPost_ret (v := .tuple #[.string ⟨#[]⟩, .int .i64 1]) (by first | (simp [results, Tryd.results27]; done) | (simp [results, Tryd.results27]; go_simp)) rfl ?_
    exact ⟨rfl, HB9.out⟩
  | true =>
    have HOW := Lib.hid hown; clear hown
    go_wp2_with fail
    go_loopw [4, 5] (fun row i wr => ∃ k : Nat, k ≤ n2 ∧ row = .string (str (joinB ((o.kids.take k).map (tellD d)))) ∧ i = .int .i64 (k : Nat) ∧ Hid (∀ x ∈ o.kids.take k, mayD d x = true) ∧ Hid (Below (w.alloc (boxO o A1 n1 c1 A2 n2 c2)).heap.size (w.alloc (boxO o A1 n1 c1 A2 n2 c2)) wr)) (fun _ i _ => n2 - (intOf i).toNat)
    case atStart => exact ⟨0, by omega, rfl, rfl, (by intro x hx; simp at hx), HBX⟩
    case round =>
      obtain ⟨k, hk, rfl, rfl, HMA, HBR⟩ := hrel
      clear p0 p1 p2 p3 p4 hz1
      have p0 : wr.cell? ⟨w.heap.size, 0, none⟩ = some ((.int .u16 (o.id : Int))) := kcell HBR.out (by go_simp)
      have p1 : wr.cell? ⟨w.heap.size, 1, none⟩ = some (.string (str o.space)) := kcell HBR.out (by go_simp)
      have p2 : wr.cell? ⟨w.heap.size, 2, none⟩ = some (.string (str o.name)) := kcell HBR.out (by go_simp)
      have p3 : wr.cell? ⟨w.heap.size, 3, none⟩ = some (.slice A1 n1 c1) := kcell HBR.out (by go_simp)
      have p4 : wr.cell? ⟨w.heap.size, 4, none⟩ = some (.slice A2 n2 c2) := kcell HBR.out (by go_simp)
      have hzr := HBR.out.size
      simp at hzr
      have hb9 := Below.trans ((by repeat (first | exact Below.refl _ _ | assumption | refine Below.drew ?_ | refine below_drewN ?_ _ | refine Below.alloc ?_ (by first | (simp; done) | omega | (simp; omega)) _ | refine Below.setCell ?_ (by first | (simp; done) | omega | (simp; omega)) _)) : Below w.heap.size w (w.alloc (boxO o A1 n1 c1 A2 n2 c2))) (HBR.out.mono (by simp))
      have HB9 := Lib.hid hb9; clear hb9
      by_cases hlt : k < n2
      · obtain ⟨x, hx⟩ : ∃ x, o.kids[k]? = some x := ⟨_, List.getElem?_eq_getElem (by have := HL2.out; omega)⟩
        have HS1 := Lib.hid (HO.out.kids.after HB9.out)
        obtain ⟨b', off, rfl, hSb, hbs, HC⟩ := HS1.out.at (by decide) (by omega)
        obtain ⟨v, hv1, hp, hv2⟩ := HC k x hx
        obtain ⟨e, B1, m1, d1, B2, m2, d2, rfl, rfl, hR⟩ := hp.open
        have hc0 := hv2 0 _ rfl
        have hc1 := hv2 1 _ rfl
        have hc2 := hv2 2 _ rfl
        have hc3 := hv2 3 _ rfl
        have hc4 := hv2 4 _ rfl
        simp only [Nat.add_zero] at hc0
        clear hv1 hv2 HC
        have HXM := Lib.hid (List.mem_of_getElem? hx)
        have HX := Lib.hid hx; clear hx
        have HXR := Lib.hid hR; clear hR
        obtain ⟨rx, hrx⟩ : ∃ rx, tellR (e + 1) x = rx := ⟨_, rfl⟩
        have HRX := Lib.hid hrx; clear hrx
        have HRO := Lib.hid (join_room (g := tellD (e + 1)) HX.out)
        have HST := Lib.hid (join_step (g := tellD (e + 1)) HX.out)
        obtain ⟨row, hrow⟩ : ∃ row, joinB ((o.kids.take k).map (tellD (e + 1))) = row := ⟨_, rfl⟩
        rw [hrow] at HRO HST ⊢
        clear hrow
        go_wp2_with fail
        refine (ih e (by omega) (HXR.out.after HB9.out |>.after (by repeat (first | exact Below.refl _ _ | assumption | refine Below.drew ?_ | refine below_drewN ?_ _ | refine Below.alloc ?_ (by first | (simp; done) | omega | (simp; omega)) _ | refine Below.setCell ?_ (by first | (simp; done) | omega | (simp; omega)) _))) (kid_lim HXM.out HLIM.out) rx HRX.out).mono ?_
        rintro e2 w2 ⟨rfl, hb2⟩
        have HB2 := Lib.hid (seqB HB9.out hb2)
        have HBX2 := Lib.hid (HBR.out.trans (hb2.mono (by have := HBR.out.size; exact this)))
        clear hb2
        clear p0 p1 p2 p3 p4 hc0 hc1 hc2 hc3 hc4
        have p0 : w2.cell? ⟨w.heap.size, 0, none⟩ = some ((.int .u16 (o.id : Int))) := kcell HBX2.out (by go_simp)
        have p1 : w2.cell? ⟨w.heap.size, 1, none⟩ = some (.string (str o.space)) := kcell HBX2.out (by go_simp)
        have p2 : w2.cell? ⟨w.heap.size, 2, none⟩ = some (.string (str o.name)) := kcell HBX2.out (by go_simp)
        have p3 : w2.cell? ⟨w.heap.size, 3, none⟩ = some (.slice A1 n1 c1) := kcell HBX2.out (by go_simp)
        have p4 : w2.cell? ⟨w.heap.size, 4, none⟩ = some (.slice (some ⟨b', off, none⟩) n2 c2) := kcell HBX2.out (by go_simp)
        cases hm : mayD (e + 1) x with
        | false =>
          have HM := Lib.hid hm; clear hm
          obtain rfl := HRX.out.symm.trans (tellR_no HM.out)
          obtain rfl := HR.out.symm.trans (tellR_no (may_stop HXM.out HM.out))
          go_wp2_with fail
          refine bodyPost_ret (v := .tuple #[.string ⟨#[]⟩, .int .i64 1]) (by first | (simp [results, Tryd.results27]; done) | (simp [results, Tryd.results27]; go_simp)) rfl ?_
          exact ⟨rfl, HB2.out⟩
        | true =>
          have HM := Lib.hid hm; clear hm
          obtain rfl := HRX.out.symm.trans (tellR_ok HM.out)
          have HTX : Hid (tellD (e + 1) x = tellD (e + 1) x) := rfl
          obtain ⟨tx, htx⟩ : ∃ tx, tellD (e + 1) x = tx := ⟨_, rfl⟩
          rw [htx] at HRO HST ⊢
          clear htx HTX
          simp only [wval_ok, werr_ok]
          have HMA2 : Hid (∀ y ∈ o.kids.take (k + 1), mayD (e + 1) y = true) := by
            intro y hy
            rw [List.take_add_one, List.mem_append] at hy
            rcases hy with hy | hy
            · exact HMA.out y hy
            · rw [HX.out] at hy
              obtain rfl : y = x := by simpa using hy
              exact HM.out
          by_cases hk0 : 0 < k
          · have hro := HRO.out
            rw [if_pos hk0] at hro
            have hrl : row.length + 2 + tx.length ≤ 140737488355328 := by have := HJ.out; simp only [sepB, List.length_cons, List.length_nil] at hro; omega
            clear hro
            have HST2 := HST.out
            rw [if_pos hk0] at HST2
            have HS2 := Lib.hid HST2; clear HST2
            have ha1 : ∀ w, (Op.stringOp .add (str row) (⟨#[44, 32]⟩ : ByteArray)).run Tryd.prog w = .ok (.string (str (row ++ [44, 32]))) w := add_str3 row [44, 32] (by simp only [List.length_append, List.length_cons, List.length_nil]; omega)
            have ha2 : ∀ w, (Op.stringOp .add (str (row ++ [44, 32])) (str tx)).run Tryd.prog w = .ok (.string (str (row ++ 44 :: 32 :: tx))) w := by
              intro w
              rw [show row ++ 44 :: 32 :: tx = (row ++ [44, 32]) ++ tx by simp]
              exact add_str3 (row ++ [44, 32]) tx (by simp only [List.length_append, List.length_cons, List.length_nil]; omega) w
            go_wp2_with fail
            refine ⟨⟨k + 1, by omega, by rw [HS2.out]; rfl, by go_num, HMA2, HBX2⟩, by simp [intOf]; omega⟩
          · obtain rfl : k = 0 := by omega
            have hro := HRO.out
            rw [if_neg hk0] at hro
            have hrl : row.length + tx.length ≤ 140737488355328 := by have := HJ.out; simp only [List.length_nil] at hro; omega
            clear hro
            have HST2 := HST.out
            rw [if_neg hk0] at HST2
            have HS2 := Lib.hid HST2; clear HST2
            have ha1 : ∀ w, (Op.stringOp .add (str row) (str tx)).run Tryd.prog w = .ok (.string (str (row ++ tx))) w := add_str3 row tx (by omega)
            go_wp2_with fail
            refine ⟨⟨1, by omega, by have := HS2.out; simp only [Nat.zero_add] at this; rw [this]; rfl, by go_num, HMA2, HBX2⟩, by simp [intOf]; omega⟩
      · obtain rfl : k = n2 := by omega
        have h0 : o.kids.take k = o.kids := List.take_of_length_le (by have := HL2.out; omega)
        rw [h0] at HMA ⊢
        clear h0
        have HMY := Lib.hid (show mayD (d + 1) o = true by rw [may_s, HOW.out, List.all_eq_true.2 HMA.out]; rfl)
        obtain rfl := HR.out.symm.trans (tellR_ok HMY.out)
        by_cases hi : o.id = 0
        · have HI := Lib.hid hi; clear hi
          rw [HI.out] at p0
          have htl : tellD (d + 1) o = 39 :: (o.name ++ [39]) := by rw [tell_0 HI.out]; simp [wList, wMap, wSet, wTuple, wordB]
          have htn := HT.out
          rw [htl] at htn
          have HTL := Lib.hid htl; clear htl
          simp only [List.length_append, List.length_cons, List.length_nil] at htn
          have ha1 : ∀ w, (Op.stringOp .add (⟨#[39]⟩ : ByteArray) (str o.name)).run Tryd.prog w = .ok (.string (str (39 :: o.name))) w := add_str3 [39] o.name (by simp only [List.length_append, List.length_cons, List.length_nil]; omega)
          have ha2 : ∀ w, (Op.stringOp .add (str (39 :: o.name)) (⟨#[39]⟩ : ByteArray)).run Tryd.prog w = .ok (.string (str (39 :: (o.name ++ [39])))) w := add_str3 (39 :: o.name) [39] (by simp only [List.length_append, List.length_cons, List.length_nil]; omega)
          go_wp2_with fail
          refine bodyPost_ret (v := .tuple #[.string (str (39 :: (o.name ++ [39]))), .int .i64 0]) (by first | (simp [results, Tryd.results27]; done) | (simp [results, Tryd.results27]; go_simp)) rfl ?_
          rw [HTL.out]
          exact ⟨rfl, HB9.out⟩
        have i0 := hi; clear hi
        by_cases hi : o.id = 48
        · have HI := Lib.hid hi; clear hi
          rw [HI.out] at p0
          have htl : tellD (d + 1) o = o.space ++ 46 :: o.name := by rw [tell_48 HI.out]; simp [wList, wMap, wSet, wTuple, wordB]
          have htn := HT.out
          rw [htl] at htn
          have HTL := Lib.hid htl; clear htl
          simp only [List.length_append, List.length_cons, List.length_nil] at htn
          have ha1 : ∀ w, (Op.stringOp .add (str o.space) (⟨#[46]⟩ : ByteArray)).run Tryd.prog w = .ok (.string (str (o.space ++ [46]))) w := add_str3 o.space [46] (by simp only [List.length_append, List.length_cons, List.length_nil]; omega)
          have ha2 : ∀ w, (Op.stringOp .add (str (o.space ++ [46])) (str o.name)).run Tryd.prog w = .ok (.string (str (o.space ++ 46 :: o.name))) w := by
            intro w
            rw [show o.space ++ 46 :: o.name = (o.space ++ [46]) ++ o.name by simp]
            exact add_str3 (o.space ++ [46]) o.name (by simp only [List.length_append, List.length_cons, List.length_nil]; omega) w
          go_wp2_with fail
          refine bodyPost_ret (v := .tuple #[.string (str (o.space ++ 46 :: o.name)), .int .i64 0]) (by first | (simp [results, Tryd.results27]; done) | (simp [results, Tryd.results27]; go_simp)) rfl ?_
          rw [HTL.out]
          exact ⟨rfl, HB9.out⟩
        have i48 := hi; clear hi
        by_cases hi : o.id = 32
        · have HI := Lib.hid hi; clear hi
          rw [HI.out] at p0
          have htl : tellD (d + 1) o = 108 :: 105 :: 115 :: 116 :: 60 :: (joinB (o.kids.map (tellD d)) ++ [62]) := by rw [tell_comp (by rw [HI.out]; simp)]; simp [wordB, HI.out, wList, wMap, wSet, wTuple]
          have htn := HT.out
          rw [htl] at htn
          have HTL := Lib.hid htl; clear htl
          obtain ⟨row, hrow⟩ : ∃ row, joinB (o.kids.map (tellD d)) = row := ⟨_, rfl⟩
          rw [hrow] at htn HTL ⊢
          clear hrow
          simp only [List.length_append, List.length_cons, List.length_nil] at htn
          have ha1 : ∀ w, (Op.stringOp .add (⟨#[108, 105, 115, 116, 60]⟩ : ByteArray) (str row)).run Tryd.prog w = .ok (.string (str (108 :: 105 :: 115 :: 116 :: 60 :: row))) w := add_str3 [108, 105, 115, 116, 60] row (by simp only [List.length_append, List.length_cons, List.length_nil]; omega)
          have ha2 : ∀ w, (Op.stringOp .add (str (108 :: 105 :: 115 :: 116 :: 60 :: row)) (⟨#[62]⟩ : ByteArray)).run Tryd.prog w = .ok (.string (str (108 :: 105 :: 115 :: 116 :: 60 :: (row ++ [62])))) w := add_str3 (108 :: 105 :: 115 :: 116 :: 60 :: row) [62] (by simp only [List.length_append, List.length_cons, List.length_nil]; omega)
          go_wp2_with fail
          refine bodyPost_ret (v := .tuple #[.string (str (108 :: 105 :: 115 :: 116 :: 60 :: (row ++ [62]))), .int .i64 0]) (by first | (simp [results, Tryd.results27]; done) | (simp [results, Tryd.results27]; go_simp)) rfl ?_
          rw [HTL.out]
          exact ⟨rfl, HB9.out⟩
        have i32 := hi; clear hi
        by_cases hi : o.id = 33
        · have HI := Lib.hid hi; clear hi
          rw [HI.out] at p0
          have htl : tellD (d + 1) o = 109 :: 97 :: 112 :: 60 :: (joinB (o.kids.map (tellD d)) ++ [62]) := by rw [tell_comp (by rw [HI.out]; simp)]; simp [wordB, HI.out, wList, wMap, wSet, wTuple]
          have htn := HT.out
          rw [htl] at htn
          have HTL := Lib.hid htl; clear htl
          obtain ⟨row, hrow⟩ : ∃ row, joinB (o.kids.map (tellD d)) = row := ⟨_, rfl⟩
          rw [hrow] at htn HTL ⊢
          clear hrow
          simp only [List.length_append, List.length_cons, List.length_nil] at htn
          have ha1 : ∀ w, (Op.stringOp .add (⟨#[109, 97, 112, 60]⟩ : ByteArray) (str row)).run Tryd.prog w = .ok (.string (str (109 :: 97 :: 112 :: 60 :: row))) w := add_str3 [109, 97, 112, 60] row (by simp only [List.length_append, List.length_cons, List.length_nil]; omega)
          have ha2 : ∀ w, (Op.stringOp .add (str (109 :: 97 :: 112 :: 60 :: row)) (⟨#[62]⟩ : ByteArray)).run Tryd.prog w = .ok (.string (str (109 :: 97 :: 112 :: 60 :: (row ++ [62])))) w := add_str3 (109 :: 97 :: 112 :: 60 :: row) [62] (by simp only [List.length_append, List.length_cons, List.length_nil]; omega)
          go_wp2_with fail
          refine bodyPost_ret (v := .tuple #[.string (str (109 :: 97 :: 112 :: 60 :: (row ++ [62]))), .int .i64 0]) (by first | (simp [results, Tryd.results27]; done) | (simp [results, Tryd.results27]; go_simp)) rfl ?_
          rw [HTL.out]
          exact ⟨rfl, HB9.out⟩
        have i33 := hi; clear hi
        by_cases hi : o.id = 34
        · have HI := Lib.hid hi; clear hi
          rw [HI.out] at p0
          have htl : tellD (d + 1) o = 115 :: 101 :: 116 :: 60 :: (joinB (o.kids.map (tellD d)) ++ [62]) := by rw [tell_comp (by rw [HI.out]; simp)]; simp [wordB, HI.out, wList, wMap, wSet, wTuple]
          have htn := HT.out
          rw [htl] at htn
          have HTL := Lib.hid htl; clear htl
          obtain ⟨row, hrow⟩ : ∃ row, joinB (o.kids.map (tellD d)) = row := ⟨_, rfl⟩
          rw [hrow] at htn HTL ⊢
          clear hrow
          simp only [List.length_append, List.length_cons, List.length_nil] at htn
          have ha1 : ∀ w, (Op.stringOp .add (⟨#[115, 101, 116, 60]⟩ : ByteArray) (str row)).run Tryd.prog w = .ok (.string (str (115 :: 101 :: 116 :: 60 :: row))) w := add_str3 [115, 101, 116, 60] row (by simp only [List.length_append, List.length_cons, List.length_nil]; omega)
          have ha2 : ∀ w, (Op.stringOp .add (str (115 :: 101 :: 116 :: 60 :: row)) (⟨#[62]⟩ : ByteArray)).run Tryd.prog w = .ok (.string (str (115 :: 101 :: 116 :: 60 :: (row ++ [62])))) w := add_str3 (115 :: 101 :: 116 :: 60 :: row) [62] (by simp only [List.length_append, List.length_cons, List.length_nil]; omega)
          go_wp2_with fail
          refine bodyPost_ret (v := .tuple #[.string (str (115 :: 101 :: 116 :: 60 :: (row ++ [62]))), .int .i64 0]) (by first | (simp [results, Tryd.results27]; done) | (simp [results, Tryd.results27]; go_simp)) rfl ?_
          rw [HTL.out]
          exact ⟨rfl, HB9.out⟩
        have i34 := hi; clear hi
        by_cases hi : o.id = 49
        · have HI := Lib.hid hi; clear hi
          rw [HI.out] at p0
          have htl : tellD (d + 1) o = 116 :: 117 :: 112 :: 108 :: 101 :: 60 :: (joinB (o.kids.map (tellD d)) ++ [62]) := by rw [tell_comp (by rw [HI.out]; simp)]; simp [wordB, HI.out, wList, wMap, wSet, wTuple]
          have htn := HT.out
          rw [htl] at htn
          have HTL := Lib.hid htl; clear htl
          obtain ⟨row, hrow⟩ : ∃ row, joinB (o.kids.map (tellD d)) = row := ⟨_, rfl⟩
          rw [hrow] at htn HTL ⊢
          clear hrow
          simp only [List.length_append, List.length_cons, List.length_nil] at htn
          have ha1 : ∀ w, (Op.stringOp .add (⟨#[116, 117, 112, 108, 101, 60]⟩ : ByteArray) (str row)).run Tryd.prog w = .ok (.string (str (116 :: 117 :: 112 :: 108 :: 101 :: 60 :: row))) w := add_str3 [116, 117, 112, 108, 101, 60] row (by simp only [List.length_append, List.length_cons, List.length_nil]; omega)
          have ha2 : ∀ w, (Op.stringOp .add (str (116 :: 117 :: 112 :: 108 :: 101 :: 60 :: row)) (⟨#[62]⟩ : ByteArray)).run Tryd.prog w = .ok (.string (str (116 :: 117 :: 112 :: 108 :: 101 :: 60 :: (row ++ [62])))) w := add_str3 (116 :: 117 :: 112 :: 108 :: 101 :: 60 :: row) [62] (by simp only [List.length_append, List.length_cons, List.length_nil]; omega)
          go_wp2_with fail
          refine bodyPost_ret (v := .tuple #[.string (str (116 :: 117 :: 112 :: 108 :: 101 :: 60 :: (row ++ [62]))), .int .i64 0]) (by first | (simp [results, Tryd.results27]; done) | (simp [results, Tryd.results27]; go_simp)) rfl ?_
          rw [HTL.out]
          exact ⟨rfl, HB9.out⟩
        have i49 := hi; clear hi
        have HPN := Lib.hid (own_plain HOW.out i0 i48 i32 i33 i34 i49)
        have htl := tell_else (d := d) (o := o) (by omega)
        have HTL := Lib.hid htl; clear htl
        have hid20 : o.id ≤ 20 := HPN.out.1
        go_wp2_with fail
        refine (names4_any _).mono ?_
        rintro e3 w3 ⟨g, rfl, hg1, hg2, hgc, hb3⟩
        have hcell := hgc o.id (nameB o.id) HPN.out.2
        clear hgc
        have HB3 := Lib.hid (seqB HB9.out hb3)
        clear p1 p2 p3 p4
        replace p0 := kcell hb3 p0
        clear hb3
        go_wp2_with fail
        refine bodyPost_ret (v := .tuple #[.string (str (nameB o.id)), .int .i64 0]) (by first | (simp [results, Tryd.results27]; done) | (simp [results, Tryd.results27]; go_simp)) rfl ?_
        rw [HTL.out]
        exact ⟨rfl, HB3.out⟩

theorem text4_all : ∀ d : Nat, Tell4 d := by
  intro d
  induction d using Nat.strongRecOn with
  | ind d ih =>
    intro S M A1 n1 c1 A2 n2 c2 o w ho hl r hr
    exact text4_step ih ho hl r hr
set_option maxHeartbeats 8000000 in
set_option maxRecDepth 100000 in
theorem Text4_any {d : Nat} {S : Nat → Prop} {M : Nat} {A1 : Option Addr} {n1 c1 : Nat} {A2 : Option Addr} {n2 c2 : Nat} {o : Opt} {w : World} (ho : OptR S w M d A1 n1 c1 A2 n2 c2 o) (hn : nD (d + 1) o ≤ 1000000) (hlim : nD (d + 1) o * (2 * M + 30) ≤ 140737488355328) (r : Wr) (hr : textW (d + 1) o = r) :
    Calls Tryd.prog 15 #[optV o A1 n1 c1 A2 n2 c2] w fun e w' => e = .returned (.tuple #[.string (str (wval r)), .int .i64 (werr r)]) ∧ Below w.heap.size w w' := by
  have HR := Lib.hid hr; clear hr
  have HOR := Lib.hid ho.lt; clear ho
  have HLIM := Lib.hid hlim; clear hlim
  have hdn := Nat.le_trans (depthD_nD (d + 1) o) hn
  have HN := Lib.hid hn; clear hn
  obtain ⟨dep, hdep⟩ : ∃ dep, depthD (d + 1) o = dep := ⟨_, rfl⟩
  rw [hdep] at hdn
  have HD := Lib.hid hdep; clear hdep
  go_enter Tryd.func15, Tryd.ntmps15
  go_wp2_with fail
  refine (depth4_any d (HOR.out.after (by repeat (first | exact Below.refl _ _ | assumption | refine Below.drew ?_ | refine below_drewN ?_ _ | refine Below.alloc ?_ (by first | (simp; done) | omega | (simp; omega)) _ | refine Below.setCell ?_ (by first | (simp; done) | omega | (simp; omega)) _))) HN.out).mono ?_
  rintro e w1 ⟨rfl, hb1⟩
  rw [HD.out]
  have p0 : w1.cell? ⟨w.heap.size, 0, none⟩ = some (.int .u16 (o.id : Int)) := kcell hb1 (by go_simp)
  have p1 : w1.cell? ⟨w.heap.size, 1, none⟩ = some (.string (str o.space)) := kcell hb1 (by go_simp)
  have p2 : w1.cell? ⟨w.heap.size, 2, none⟩ = some (.string (str o.name)) := kcell hb1 (by go_simp)
  have p3 : w1.cell? ⟨w.heap.size, 3, none⟩ = some (.slice A1 n1 c1) := kcell hb1 (by go_simp)
  have p4 : w1.cell? ⟨w.heap.size, 4, none⟩ = some (.slice A2 n2 c2) := kcell hb1 (by go_simp)
  replace hb1 : Below w.heap.size w w1 := Below.trans (by repeat (first | exact Below.refl _ _ | assumption | refine Below.drew ?_ | refine below_drewN ?_ _ | refine Below.alloc ?_ (by first | (simp; done) | omega | (simp; omega)) _ | refine Below.setCell ?_ (by first | (simp; done) | omega | (simp; omega)) _)) (hb1.mono (by simp))
  by_cases hdeep : 20 < dep
  · have h0 : textW (d + 1) o = .error 13 := by unfold textW; rw [HD.out, if_pos hdeep]
    obtain rfl := HR.out.symm.trans h0
    go_wp2_with fail
    refine bodyPost_ret (v := .tuple #[.string ⟨#[]⟩, .int .i64 13]) (by first | (simp [results, Tryd.results15]; done) | (simp [results, Tryd.results15]; go_simp)) rfl ?_
    exact ⟨rfl, hb1⟩
  · have h0 : tellR (d + 1) o = r := by have := HR.out; unfold textW at this; rwa [HD.out, if_neg hdeep] at this
    have H0 := Lib.hid h0; clear h0
    go_wp2_with fail
    refine (text4_all d (HOR.out.after hb1) HLIM.out r H0.out).mono ?_
    rintro e2 w2 ⟨rfl, hb2⟩
    clear p0 p1 p2 p3 p4
    have hb3 := seqB hb1 hb2
    go_wp2_with fail
    refine bodyPost_ret (v := .tuple #[.string (str (wval r)), .int .i64 (werr r)]) (by first | (simp [results, Tryd.results15]; done) | (simp [results, Tryd.results15]; go_simp)) rfl ?_
    exact ⟨rfl, hb3⟩
end Go.Proofs.Sb
