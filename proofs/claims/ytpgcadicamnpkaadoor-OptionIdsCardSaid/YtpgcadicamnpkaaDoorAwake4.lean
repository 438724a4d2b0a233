/- The walk over signalboxlaw04.awake: true. Conditions: the table of names reads as it was laid. -/
import Derived.Test.YtpgcadicamnpkaaDoorOptp
import Derived.Test.YtpgcadicamnpkaaDoorOpth
import Derived.Test.YtpgcadicamnpkaaDoorOptt
import Derived.Test.YtpgcadicamnpkaaDoorRefb
set_option linter.unusedVariables false
set_option linter.unusedSimpArgs false
namespace Go.Proofs.Sb
open Go.RowKit _root_.Sb

def kid9 : Opt := ⟨9, [], [], [], []⟩
def list9 : Opt := ⟨32, [], [], [], [kid9]⟩
def list0 : Opt := ⟨32, [], [], [], []⟩
theorem kid9_at (S : Nat → Prop) (w : World) : optD S w 9223372036854775807 1 kid9 [.int .u16 9, .string ⟨#[]⟩, .string ⟨#[]⟩, .slice none 0 0, .slice none 0 0] := ⟨none, 0, 0, none, 0, 0, rfl, by decide, by decide, by decide, Arr.nil, Arr.nil⟩
theorem list9_at (w W : World) (e : TypeId) : Arr 5 (optD (fun _ => True) W 9223372036854775807 1) (fun _ => True) (w.alloc (.cells #[.int .u16 9, .string ⟨#[]⟩, .string ⟨#[]⟩, .slice none 0 0, .slice none 0 0] e)) (some ⟨w.heap.size, 0, none⟩) 1 1 [kid9] :=
  (arr_lit (P := optD (fun _ => True) W 9223372036854775807 1) w #[.int .u16 9, .string ⟨#[]⟩, .string ⟨#[]⟩, .slice none 0 0, .slice none 0 0] kid9 rfl (kid9_at _ _) rfl).mono fun _ _ _ => trivial
theorem list9_R {w W : World} {e : TypeId} (h : Below (w.alloc (.cells #[.int .u16 9, .string ⟨#[]⟩, .string ⟨#[]⟩, .slice none 0 0, .slice none 0 0] e)).heap.size (w.alloc (.cells #[.int .u16 9, .string ⟨#[]⟩, .string ⟨#[]⟩, .slice none 0 0, .slice none 0 0] e)) W) : OptR (fun _ => True) W 9223372036854775807 1 none 0 0 (some ⟨w.heap.size, 0, none⟩) 1 1 list9 :=
  ⟨by decide, by decide, by decide, Arr.nil, (list9_at w W e).after h⟩
theorem list0_R (W : World) : OptR (fun _ => True) W 9223372036854775807 0 none 0 0 none 0 0 list0 := ⟨by decide, by decide, by decide, Arr.nil, Arr.nil⟩
set_option maxHeartbeats 4000000 in
set_option maxRecDepth 100000 in
theorem awake4 {w : World} (hpl : Pl w) : Calls Tryd.prog 10 #[] w fun e w' => e = .returned (.bool true) ∧ Below w.heap.size w w' := by
  have HPL := Lib.hid hpl; clear hpl
  go_enter Tryd.func10, Tryd.ntmps10
  go_wp2_with fail
  refine (oPut_any (o := list9) (list9_R (w := w) (e := 26) (by repeat (first | exact Below.refl _ _ | assumption | refine Below.drew ?_ | refine below_drewN ?_ _ | refine Below.alloc ?_ (by first | (simp; done) | omega | (simp; omega)) _ | refine Below.setCell ?_ (by first | (simp; done) | omega | (simp; omega)) _))) (by decide) (HPL.out.after (by repeat (first | exact Below.refl _ _ | assumption | refine Below.drew ?_ | refine below_drewN ?_ _ | refine Below.alloc ?_ (by first | (simp; done) | omega | (simp; omega)) _ | refine Below.setCell ?_ (by first | (simp; done) | omega | (simp; omega)) _))) (by decide) (.ok [0, 32, 0, 9]) (by kernel_rfl)).mono ?_
  rintro e w1 ⟨A1, m1, c1, rfl, ho1, hb1⟩
  have l0 : w1.cell? ⟨w.heap.size + 1, 0, none⟩ = some (.int .u16 32) := kcell hb1 (by go_simp)
  have l1 : w1.cell? ⟨w.heap.size + 1, 1, none⟩ = some (.string ⟨#[]⟩) := kcell hb1 (by go_simp)
  have l2 : w1.cell? ⟨w.heap.size + 1, 2, none⟩ = some (.string ⟨#[]⟩) := kcell hb1 (by go_simp)
  have l3 : w1.cell? ⟨w.heap.size + 1, 3, none⟩ = some (.slice none 0 0) := kcell hb1 (by go_simp)
  have l4 : w1.cell? ⟨w.heap.size + 1, 4, none⟩ = some (.slice (some ⟨w.heap.size, 0, none⟩) 1 1) := kcell hb1 (by go_simp)
  have hK1 : Below (w.alloc (.cells #[.int .u16 9, .string ⟨#[]⟩, .string ⟨#[]⟩, .slice none 0 0, .slice none 0 0] 26)).heap.size (w.alloc (.cells #[.int .u16 9, .string ⟨#[]⟩, .string ⟨#[]⟩, .slice none 0 0, .slice none 0 0] 26)) w1 := Below.trans (by repeat (first | exact Below.refl _ _ | assumption | refine Below.drew ?_ | refine below_drewN ?_ _ | refine Below.alloc ?_ (by first | (simp; done) | omega | (simp; omega)) _ | refine Below.setCell ?_ (by first | (simp; done) | omega | (simp; omega)) _)) (hb1.mono (by simp))
  have hz1 : w.heap.size + 1 < w1.heap.size := by have := hb1.size; simp at this; omega
  replace hb1 : Below w.heap.size w w1 := Below.trans (by repeat (first | exact Below.refl _ _ | assumption | refine Below.drew ?_ | refine below_drewN ?_ _ | refine Below.alloc ?_ (by first | (simp; done) | omega | (simp; omega)) _ | refine Below.setCell ?_ (by first | (simp; done) | omega | (simp; omega)) _)) (hb1.mono (by simp; omega))
  have HO1 := Lib.hid ho1; clear ho1
  go_wp2_with fail
  refine (oGet_any (sl_lit _ _ 7 [0, 33, 0, 1, 0, 13, 7] (by rfl) (by rfl) (by decide) (by simp)) (by decide) ((HPL.out.after hb1).after (by repeat (first | exact Below.refl _ _ | assumption | refine Below.drew ?_ | refine below_drewN ?_ _ | refine Below.alloc ?_ (by first | (simp; done) | omega | (simp; omega)) _ | refine Below.setCell ?_ (by first | (simp; done) | omega | (simp; omega)) _))) (.ok (⟨33, [], [], [], [⟨1, [], [], [], []⟩, ⟨13, [], [], [], []⟩]⟩, [7])) (by kernel_rfl)).mono ?_
  rintro e w2 ⟨A2, m2, c2, A3, m3, c3, A4, m4, c4, rfl, h2, h4, hb2⟩
  have hz2 : w1.heap.size < w2.heap.size := by have := hb2.size; simp at this; omega
  replace hb2 : Below w1.heap.size w1 w2 := Below.trans (by repeat (first | exact Below.refl _ _ | assumption | refine Below.drew ?_ | refine below_drewN ?_ _ | refine Below.alloc ?_ (by first | (simp; done) | omega | (simp; omega)) _ | refine Below.setCell ?_ (by first | (simp; done) | omega | (simp; omega)) _)) (hb2.mono (by simp))
  have hm3 : m3 = 2 := h2.kids.len
  subst hm3
  have hm4 : m4 = 1 := h4.len
  subst hm4
  clear h2 h4
  replace l0 := kcell hb2 l0
  replace l1 := kcell hb2 l1
  replace l2 := kcell hb2 l2
  replace l3 := kcell hb2 l3
  replace l4 := kcell hb2 l4
  have hb02 := seqB hb1 hb2
  have hz02 : w.heap.size + 1 < w2.heap.size := by omega
  have hK2 := seqB hK1 hb2
  go_wp2_with fail
  refine (oText_any (o := list9) (M := 9223372036854775807) (list9_R (w := w) (e := 26) (seqB hK2 (by repeat (first | exact Below.refl _ _ | assumption | refine Below.drew ?_ | refine below_drewN ?_ _ | refine Below.alloc ?_ (by first | (simp; done) | omega | (simp; omega)) _ | refine Below.setCell ?_ (by first | (simp; done) | omega | (simp; omega)) _)))) ((HPL.out.after hb02).after (by repeat (first | exact Below.refl _ _ | assumption | refine Below.drew ?_ | refine below_drewN ?_ _ | refine Below.alloc ?_ (by first | (simp; done) | omega | (simp; omega)) _ | refine Below.setCell ?_ (by first | (simp; done) | omega | (simp; omega)) _))) (by decide) (by decide) (.ok [108, 105, 115, 116, 60, 105, 110, 116, 62]) (by kernel_rfl)).mono ?_
  rintro e w3 ⟨rfl, hb3⟩
  have o4 : w3.cell? ⟨w2.heap.size, 4, none⟩ = some (.slice A3 2 c3) := kcell hb3 (by go_simp)
  have hz3 : w2.heap.size < w3.heap.size := by have := hb3.size; simp at this; omega
  replace hb3 : Below w2.heap.size w2 w3 := Below.trans (by repeat (first | exact Below.refl _ _ | assumption | refine Below.drew ?_ | refine below_drewN ?_ _ | refine Below.alloc ?_ (by first | (simp; done) | omega | (simp; omega)) _ | refine Below.setCell ?_ (by first | (simp; done) | omega | (simp; omega)) _)) (hb3.mono (by simp))
  have hb03 := seqB hb02 hb3
  clear l0 l1 l2 l3 l4
  go_wp2_with fail
  refine (oPut_any (o := list0) (list0_R _) (by decide) ((HPL.out.after hb03).after (by repeat (first | exact Below.refl _ _ | assumption | refine Below.drew ?_ | refine below_drewN ?_ _ | refine Below.alloc ?_ (by first | (simp; done) | omega | (simp; omega)) _ | refine Below.setCell ?_ (by first | (simp; done) | omega | (simp; omega)) _))) (by decide) (.error 1) (by kernel_rfl)).mono ?_
  rintro e w4 ⟨A5, m5, c5, rfl, ho5, hb4⟩
  replace o4 := kcell hb4 o4
  have hz4 := hb4.size
  have hb04 := seqB hb03 hb4
  have hz24 : w2.heap.size < w4.heap.size := by omega
  clear ho5
  go_wp2_with fail
  refine (oGet_any (sl_lit _ _ 2 [0, 10] (by rfl) (by rfl) (by decide) (by simp)) (by decide) ((HPL.out.after hb04).after (by repeat (first | exact Below.refl _ _ | assumption | refine Below.drew ?_ | refine below_drewN ?_ _ | refine Below.alloc ?_ (by first | (simp; done) | omega | (simp; omega)) _ | refine Below.setCell ?_ (by first | (simp; done) | omega | (simp; omega)) _))) (.error 11) (by kernel_rfl)).mono ?_
  rintro e w5 ⟨A6, m6, c6, A7, m7, c7, A8, m8, c8, rfl, h6, h8, hb5⟩
  replace o4 := kcell hb5 (show (w4.alloc _).cell? ⟨w2.heap.size, 4, none⟩ = some (.slice A3 2 c3) by go_simp)
  have hz5 : w4.heap.size < w5.heap.size := by have := hb5.size; simp at this; omega
  replace hb5 : Below w4.heap.size w4 w5 := Below.trans (by repeat (first | exact Below.refl _ _ | assumption | refine Below.drew ?_ | refine below_drewN ?_ _ | refine Below.alloc ?_ (by first | (simp; done) | omega | (simp; omega)) _ | refine Below.setCell ?_ (by first | (simp; done) | omega | (simp; omega)) _)) (hb5.mono (by simp))
  have hb05 := seqB hb04 hb5
  have hz25 : w2.heap.size < w5.heap.size := by omega
  clear h6 h8
  have hcv : ∀ w', Below w5.heap.size w5 w' → (convert 29 9 (.slice A1 m1 c1)).run Tryd.prog w' = .ok (.string (str [0, 32, 0, 9])) w' := fun w' h => conv_sl ((HO1.out.after (seqB hb2 (seqB hb3 (seqB hb4 hb5)))).sl.after h)
  have hcv1 := hcv (w5.alloc (.cells #[.int .u16 (Opt.none.id : Int), .string (str Opt.none.space), .string (str Opt.none.name), .slice A6 m6 c6, .slice A7 m7 c7] 26)) (by repeat (first | exact Below.refl _ _ | assumption | refine Below.drew ?_ | refine below_drewN ?_ _ | refine Below.alloc ?_ (by first | (simp; done) | omega | (simp; omega)) _ | refine Below.setCell ?_ (by first | (simp; done) | omega | (simp; omega)) _))
  clear hcv
  go_wp2_with fail
  go_ret
  exact ⟨rfl, hb05.alloc hb05.size _⟩
end Go.Proofs.Sb
