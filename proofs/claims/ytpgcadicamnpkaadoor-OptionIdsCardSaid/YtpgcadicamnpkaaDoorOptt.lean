/- Walks over option.tell, Text. Conditions: the table of names reads as it was laid; lengths up to 2^47. (written by gen_opttell.py) -/
import Derived.Test.YtpgcadicamnpkaaDoorOptty
import Derived.Test.YtpgcadicamnpkaaDoorOpty
set_option linter.unusedVariables false
set_option linter.unusedSimpArgs false
namespace Sb
theorem tell_pos {d : Nat} {o : Opt} (h : mayD (d + 1) o = true) : tellD (d + 1) o ≠ [] := by
  by_cases h0 : o.id = 0
  · rw [tell_0 h0]; simp
  · by_cases h1 : o.id = 48
    · rw [tell_48 h1]; simp
    · by_cases h2 : o.id = 32 ∨ o.id = 33 ∨ o.id = 34 ∨ o.id = 49
      · rw [tell_comp h2]; simp
      · rw [tell_else (by omega)]
        rw [may_s, Bool.and_eq_true] at h
        have h3 := own_id h.1
        rw [nameB_ne]
        unfold kn at h3
        by_cases h4 : o.id = 0 ∨ isPlain o.id = true
        · rcases h4 with h4 | h4
          · exact absurd h4 h0
          · exact h4
        · rw [if_neg h4, if_neg (by omega), if_neg (by omega), if_neg (by omega)] at h3
          exact absurd rfl h3
end Sb
namespace Go.Proofs.Sb
open Go.RowKit _root_.Sb

theorem tellw_all : ∀ d : Nat, TellW d := by
  intro d
  induction d using Nat.strongRecOn with
  | ind d ih =>
  intro S M A1 n1 c1 A2 n2 c2 o w B b bs ho hS hB hBw hB0 hpl hlen
  by_cases h0 : o.id = 0
  · exact tellw_0 ih ho hS hB hBw hB0 hpl hlen (Lib.hid h0)
  · by_cases h1 : o.id = 48
    · exact tellw_48 ih ho hS hB hBw hB0 hpl hlen (Lib.hid h1)
    · by_cases h2 : o.id = 32
      · exact tellw_32 ih ho hS hB hBw hB0 hpl hlen (Lib.hid h2)
      · by_cases h3 : o.id = 33
        · exact tellw_33 ih ho hS hB hBw hB0 hpl hlen (Lib.hid h3)
        · by_cases h4 : o.id = 34
          · exact tellw_34 ih ho hS hB hBw hB0 hpl hlen (Lib.hid h4)
          · by_cases h5 : o.id = 49
            · exact tellw_49 ih ho hS hB hBw hB0 hpl hlen (Lib.hid h5)
            · exact tellw_else ih ho hS hB hBw hB0 hpl hlen (Lib.hid (by omega))
set_option maxHeartbeats 4000000 in
set_option maxRecDepth 100000 in
theorem oText_any {d : Nat} {S : Nat → Prop} {M : Nat} {A1 : Option Addr} {n1 c1 : Nat} {A2 : Option Addr} {n2 c2 : Nat} {o : Opt} {w : World} (ho : OptR S w M d A1 n1 c1 A2 n2 c2 o) (hw : Pl w) (hn : nD (d + 1) o ≤ 1000000) (hlen : (tellD (d + 1) o).length ≤ 140737488355328) (r : Wr) (hr : textW (d + 1) o = r) :
    Calls Tryd.prog 14 #[optV o A1 n1 c1 A2 n2 c2] w fun e w' => e = .returned (.tuple #[.string (str (wval r)), .int .i64 (werr r)]) ∧ Below w.heap.size w w' := by
  have HPL := Lib.hid hw; clear hw
  have HR := Lib.hid hr; clear hr
  have HOR := Lib.hid ho.lt; clear ho
  have HLN := Lib.hid hlen; clear hlen
  have hdn := Nat.le_trans (depthD_nD (d + 1) o) hn
  have HN := Lib.hid hn; clear hn
  obtain ⟨dep, hdep⟩ : ∃ dep, depthD (d + 1) o = dep := ⟨_, rfl⟩
  rw [hdep] at hdn
  have HD := Lib.hid hdep; clear hdep
  obtain ⟨mv, hmv⟩ : ∃ mv, mayD (d + 1) o = mv := ⟨_, rfl⟩
  have HMV := Lib.hid hmv; clear hmv
  go_enter Tryd.func14, Tryd.ntmps14
  go_wp2_with fail
  refine (depth_any d (HOR.out.after (by repeat (first | exact Below.refl _ _ | assumption | refine Below.drew ?_ | refine below_drewN ?_ _ | refine Below.alloc ?_ (by first | (simp; done) | omega | (simp; omega)) _ | refine Below.setCell ?_ (by first | (simp; done) | omega | (simp; omega)) _))) HN.out).mono ?_
  rintro e w1 ⟨rfl, hb1⟩
  rw [HD.out]
  have hx1 := (hb1.block w.heap.size (by simp)).trans (box_new' w o A1 n1 c1 A2 n2 c2)
  have p := box_cells hx1
  have p0 := p.1
  have p1 := p.2.1
  have p2 := p.2.2.1
  have p3 := p.2.2.2.1
  have p4 := p.2.2.2.2
  have hz1 := (Array.getElem?_eq_some_iff.1 hx1).1
  replace hb1 : Below w.heap.size w w1 := Below.trans (by repeat (first | exact Below.refl _ _ | assumption | refine Below.drew ?_ | refine below_drewN ?_ _ | refine Below.alloc ?_ (by first | (simp; done) | omega | (simp; omega)) _ | refine Below.setCell ?_ (by first | (simp; done) | omega | (simp; omega)) _)) (hb1.mono (by simp))
  have HX1 := Lib.hid hx1; clear hx1 p
  by_cases hdeep : 20 < dep
  · have h0 : textW (d + 1) o = .error 13 := by unfold textW; rw [HD.out, if_pos hdeep]
    obtain rfl := HR.out.symm.trans h0
    go_wp2_with fail
    go_ret2
    exact ⟨rfl, hb1⟩
  · go_wp2_with fail
    refine (may_any d (HOR.out.after hb1) (HPL.out.after hb1)).mono ?_
    rintro e2 w2 ⟨rfl, hb2⟩
    rw [HMV.out]
    replace p0 := kcell hb2 p0
    replace p1 := kcell hb2 p1
    replace p2 := kcell hb2 p2
    replace p3 := kcell hb2 p3
    replace p4 := kcell hb2 p4
    have hz2 := hb2.size
    have hz02 : w.heap.size < w2.heap.size := by omega
    have hb02 : Below w.heap.size w w2 := seqB hb1 hb2
    cases mv with
    | false =>
      have h0 : textW (d + 1) o = .error 1 := by unfold textW; rw [HD.out, if_neg hdeep, HMV.out, if_pos rfl]
      obtain rfl := HR.out.symm.trans h0
      go_wp2_with fail
      go_ret2
      exact ⟨rfl, hb02⟩
    | true =>
      have h0 : textW (d + 1) o = .ok (tellD (d + 1) o) := by unfold textW; rw [HD.out, if_neg hdeep, HMV.out, if_neg (by decide)]
      obtain rfl := HR.out.symm.trans h0
      have HFB : Hid (IsB w2.heap.size w2.heap.size [] (w2.alloc (.cells #[.pointer none, .slice none 0 0] 50))) := Lib.fresh_isBuilder 50 5 w2
      go_wp2_with fail
      refine (tellw_all d (S := fun b => S b ∧ b < w.heap.size) (B := w2.heap.size) (b := w2.heap.size) (bs := []) ((HOR.out.after hb02).after (by repeat (first | exact Below.refl _ _ | assumption | refine Below.drew ?_ | refine below_drewN ?_ _ | refine Below.alloc ?_ (by first | (simp; done) | omega | (simp; omega)) _ | refine Below.setCell ?_ (by first | (simp; done) | omega | (simp; omega)) _))) (fun x h => by have := h.2; omega) HFB.out (by simp) (by omega) ((HPL.out.after hb02).after (by repeat (first | exact Below.refl _ _ | assumption | refine Below.drew ?_ | refine below_drewN ?_ _ | refine Below.alloc ?_ (by first | (simp; done) | omega | (simp; omega)) _ | refine Below.setCell ?_ (by first | (simp; done) | omega | (simp; omega)) _))) (by have := HLN.out; simpa using this)).mono ?_
      rintro e3 w3 ⟨rfl, hB3, hb3, ho3⟩
      have hb03 : Below w.heap.size w w3 := Below.trans hb02 (Below.trans (by repeat (first | exact Below.refl _ _ | assumption | refine Below.drew ?_ | refine below_drewN ?_ _ | refine Below.alloc ?_ (by first | (simp; done) | omega | (simp; omega)) _ | refine Below.setCell ?_ (by first | (simp; done) | omega | (simp; omega)) _)) (hb3.mono (by omega)))
      clear p0 p1 p2 p3 p4
      go_wp2_with fail
      refine (bstring_any w2.heap.size w2.heap.size (tellD (d + 1) o) w3 (by simpa using hB3) (tell_pos HMV.out)).mono ?_
      rintro e4 w4 ⟨rfl, hb4⟩
      go_wp2_with fail
      go_ret2
      exact ⟨rfl, hb03.trans (hb4.mono (by omega))⟩
end Go.Proofs.Sb
