/- Walks over signalboxref07.Same and the law's prefixOf. Conditions: up to a million warnings and parts. -/
import Derived.Test.YtpgcadicamnpkaaRpre
import Derived.Test.YtpgcadicamnpkaaSame
import Derived.Test.YtpgcadicamnpkaaLawc7
import Derived.Test.YtpgcadicamnpkaaLaws3
set_option linter.unusedVariables false
set_option linter.unusedSimpArgs false
namespace Go.Proofs.Sb
open Go.RowKit _root_.Sb

theorem grow_set3 (w : World) (b : Nat) (x y z : Value) : w.grownBy (((w.setCell ⟨b, 0, none⟩ x).setCell ⟨b, 1, none⟩ y).setCell ⟨b, 2, none⟩ z) (some b) :=
  grow_seq (grow_seq (grow_setCell w b 0 x) (grow_setCell _ b 1 y) (fun _ e => .inr e)) (grow_setCell _ b 2 z) (fun _ e => .inr e)

set_option maxHeartbeats 2000000 in
set_option maxRecDepth 100000 in
theorem same7_any {S1 S2 S3 S4 T1 T2 T3 T4 : Nat → Prop} {A1 A2 A3 A4 : Option Addr} {n1 c1 n2 c2 n3 c3 n4 c4 : Nat} {t : B} {l k : List Thing} {w : World} (h1 : Arr 5 (itemP T1 w) S1 w A1 n1 c1 l) (h2 : Arr 5 (itemP T2 w) S2 w A2 n2 c2 k) (h3 : Arr 5 (itemP T3 w) S3 w A3 n3 c3 l) (h4 : Arr 5 (itemP T4 w) S4 w A4 n4 c4 k) :
    Calls Try.prog 12 #[.agg #[.string (str t), .slice A1 n1 c1, .slice A2 n2 c2], .agg #[.string (str t), .slice A3 n3 c3, .slice A4 n4 c4]] w fun e w' => e = .returned (.bool true) ∧ Below w.heap.size w w' := by
  have H1 := Lib.hid h1; clear h1
  have H2 := Lib.hid h2; clear h2
  have H3 := Lib.hid h3; clear h3
  have H4 := Lib.hid h4; clear h4
  go_enter Try.func12, Try.ntmps12
  go_wp2_with fail
  refine (same_any (items_move H1.out (by repeat (first | exact Below.refl _ _ | assumption | refine Below.drew ?_ | refine below_drewN ?_ _ | refine Below.alloc ?_ (by first | (simp; done) | omega | (simp; omega)) _ | refine Below.setCell ?_ (by first | (simp; done) | omega | (simp; omega)) _))) (items_move H3.out (by repeat (first | exact Below.refl _ _ | assumption | refine Below.drew ?_ | refine below_drewN ?_ _ | refine Below.alloc ?_ (by first | (simp; done) | omega | (simp; omega)) _ | refine Below.setCell ?_ (by first | (simp; done) | omega | (simp; omega)) _)))).mono ?_
  rintro e w1 ⟨rfl, hb1⟩
  have p0 : w1.cell? ⟨w.heap.size, 0, none⟩ = some (.string (str t)) := kcell hb1 (by go_simp)
  have p2 : w1.cell? ⟨w.heap.size, 2, none⟩ = some (.slice A2 n2 c2) := kcell hb1 (by go_simp)
  have q0 : w1.cell? ⟨w.heap.size + 1, 0, none⟩ = some (.string (str t)) := kcell hb1 (by go_simp)
  have q2 : w1.cell? ⟨w.heap.size + 1, 2, none⟩ = some (.slice A4 n4 c4) := kcell hb1 (by go_simp)
  have hb1 : Below w.heap.size w w1 := Below.trans (by repeat (first | exact Below.refl _ _ | assumption | refine Below.drew ?_ | refine below_drewN ?_ _ | refine Below.alloc ?_ (by first | (simp; done) | omega | (simp; omega)) _ | refine Below.setCell ?_ (by first | (simp; done) | omega | (simp; omega)) _)) (hb1.mono (by simp; omega))
  have hz1 := hb1.size
  go_wp2_with fail
  refine (same_any (items_move H2.out hb1) (items_move H4.out hb1)).mono ?_
  rintro e w2 ⟨rfl, hb2⟩
  replace p0 := kcell hb2 p0
  replace q0 := kcell hb2 q0
  go_wp2_with fail
  go_ret
  exact ⟨by simp, hb1.trans (hb2.mono hz1)⟩

set_option maxHeartbeats 4000000 in
set_option maxRecDepth 100000 in
theorem prefixOf_any {S0 S1 S2 T2 : Nat → Prop} {A0 A1 A2 : Option Addr} {n0 c0 n1 c1 n2 c2 : Nat} {p : Pre} {w : World} (h0 : Sl S0 w A0 n0 c0 p.tracing) (h1 : Arr 1 strP S1 w A1 n1 c1 p.warnings) (h2 : Arr 3 (entryP T2 w) S2 w A2 n2 c2 p.payload) (hn1 : n1 ≤ 1000000) (hn2 : n2 ≤ 1000000) :
    Calls Try.prog 10 #[.agg #[.slice A0 n0 c0, .slice A1 n1 c1, .slice A2 n2 c2]] w fun e w' => ∃ B1 m1 d1 B2 m2 d2, e = .returned (.agg #[.string (str p.tracing), .slice B1 m1 d1, .slice B2 m2 d2]) ∧
      IT w.heap.size w' B1 m1 d1 (p.warnings.map .ofText) ∧ IT w.heap.size w' B2 m2 d2 (p.payload.map .ofEntry) ∧ Below w.heap.size w w' := by
  have H0 := Lib.hid h0; clear h0
  have H1 := Lib.hid h1; clear h1
  have H2 := Lib.hid h2; clear h2
  have hB : Below w.heap.size w (((w.alloc (.cells #[.slice A0 n0 c0, .slice A1 n1 c1, .slice A2 n2 c2] 26)).alloc (.cells #[.string ⟨#[]⟩, .slice none 0 0, .slice none 0 0] 38)).drew) := (by repeat (first | exact Below.refl _ _ | assumption | refine Below.drew ?_ | refine below_drewN ?_ _ | refine Below.alloc ?_ (by first | (simp; done) | omega | (simp; omega)) _ | refine Below.setCell ?_ (by first | (simp; done) | omega | (simp; omega)) _))
  have hE0 := AftR.each (row := some (w.heap.size + 1)) (W := ((w.alloc (.cells #[.slice A0 n0 c0, .slice A1 n1 c1, .slice A2 n2 c2] 26)).alloc (.cells #[.string ⟨#[]⟩, .slice none 0 0, .slice none 0 0] 38)).drew) (b := w.heap.size) (o := 0) (v := .slice A0 n0 c0) (by simp) (by go_simp)
  have hE1 := AftR.each (row := some (w.heap.size + 1)) (W := ((w.alloc (.cells #[.slice A0 n0 c0, .slice A1 n1 c1, .slice A2 n2 c2] 26)).alloc (.cells #[.string ⟨#[]⟩, .slice none 0 0, .slice none 0 0] 38)).drew) (b := w.heap.size) (o := 1) (v := .slice A1 n1 c1) (by simp) (by go_simp)
  have hE2 := AftR.each (row := some (w.heap.size + 1)) (W := ((w.alloc (.cells #[.slice A0 n0 c0, .slice A1 n1 c1, .slice A2 n2 c2] 26)).alloc (.cells #[.string ⟨#[]⟩, .slice none 0 0, .slice none 0 0] 38)).drew) (b := w.heap.size) (o := 2) (v := .slice A2 n2 c2) (by simp) (by go_simp)
  have hcv : ∀ w', AftR (some (w.heap.size + 1)) (((w.alloc (.cells #[.slice A0 n0 c0, .slice A1 n1 c1, .slice A2 n2 c2] 26)).alloc (.cells #[.string ⟨#[]⟩, .slice none 0 0, .slice none 0 0] 38)).drew) w' → (convert 22 9 (.slice A0 n0 c0)).run Try.prog w' = .ok (.string (str p.tracing)) w' := fun w' h => conv_sl ((H0.out.lt.after hB).grown h (fun b hb e => by injection e with e; have := hb.2; omega))
  have HB := Lib.hid hB; clear hB
  go_enter Try.func10, Try.ntmps10
  go_wp2_with fail
  refine regr_start (some (w.heap.size + 1)) (by kernel_rfl) ?_
  (refine regr_take 0 (v := ?_) (by rfl) (by kernel_rfl) (by kernel_rfl) (by kernel_rfl) (by exact fun _ _ _ h => h) (by rfl) ?_ ?_; rotate_left; focus (intro w hSw; go_simp; try with_reducible rfl))
  simp only [Act.put, List.setIfInBounds_toArray, List.set_cons_zero, List.set_cons_succ]
  (refine regr_take 1 (v := ?_) (by rfl) (by kernel_rfl) (by kernel_rfl) (by kernel_rfl) (by exact fun _ _ _ h => h) (by rfl) ?_ ?_; rotate_left; focus (intro w hSw; go_simp; try with_reducible rfl))
  simp only [Act.put, List.setIfInBounds_toArray, List.set_cons_zero, List.set_cons_succ]
  (refine regr_take 2 (v := ?_) (by rfl) (by kernel_rfl) (by kernel_rfl) (by kernel_rfl) (by exact fun _ _ _ h => h) (by rfl) ?_ ?_; rotate_left; focus (intro w hSw; go_simp; try with_reducible rfl))
  simp only [Act.put, List.setIfInBounds_toArray, List.set_cons_zero, List.set_cons_succ]
  (refine regr_take 3 (v := ?_) (by rfl) (by kernel_rfl) (by kernel_rfl) (by kernel_rfl) (by exact fun _ _ _ h => h) (by rfl) ?_ ?_; rotate_left; focus (intro w hSw; go_simp; try with_reducible rfl))
  simp only [Act.put, List.setIfInBounds_toArray, List.set_cons_zero, List.set_cons_succ]
  (refine regr_take 4 (v := ?_) (by rfl) (by kernel_rfl) (by kernel_rfl) (by kernel_rfl) (by exact fun _ _ _ h => h) (by rfl) ?_ ?_; rotate_left; focus (intro w hSw; go_simp; try with_reducible rfl))
  simp only [Act.put, List.setIfInBounds_toArray, List.set_cons_zero, List.set_cons_succ]
  (refine regr_take 6 (v := ?_) (by rfl) (by kernel_rfl) (by kernel_rfl) (by kernel_rfl) (by exact fun _ _ _ h => h) (by rfl) ?_ ?_; rotate_left; focus (intro w hSw; go_simp; try with_reducible rfl))
  simp only [Act.put, List.setIfInBounds_toArray, List.set_cons_zero, List.set_cons_succ]
  (refine regr_take 7 (v := ?_) (by rfl) (by kernel_rfl) (by kernel_rfl) (by kernel_rfl) (by exact fun _ _ _ h => h) (by rfl) ?_ ?_; rotate_left; focus (intro w hSw; go_simp; try with_reducible rfl))
  simp only [Act.put, List.setIfInBounds_toArray, List.set_cons_zero, List.set_cons_succ]
  refine regr_call 5 (by kernel_rfl) (by rfl) (fun K hK => ?_)
  go_simp
  go_at_call 19; refine (l7texts_any (S2 := fun _ => True) (H1.out.after HB.out) hn1).mono ?_; rintro e w1 ⟨B1, m1, d1, rfl, ho1, hb1⟩
  refine hK.out _ _ (AftR.of hb1) ?_
  clear hK K
  try simp only [Act.put, List.setIfInBounds_toArray, List.set_cons_zero, List.set_cons_succ]
  refine regr_call 8 (by kernel_rfl) (by rfl) (fun K hK => ?_)
  go_simp
  go_at_call 20; refine (l7entries_any (entries_move H2.out (seqB HB.out hb1)) hn2).mono ?_; rintro e w2 ⟨B2, m2, d2, rfl, ho2, hb2⟩; have x0 : w2.cell? ⟨w.heap.size + 1, 0, none⟩ = some (.string ⟨#[]⟩) := kcell hb2 (kcell hb1 (by go_simp)); have x1 : w2.cell? ⟨w.heap.size + 1, 1, none⟩ = some (.slice none 0 0) := kcell hb2 (kcell hb1 (by go_simp)); have x2 : w2.cell? ⟨w.heap.size + 1, 2, none⟩ = some (.slice none 0 0) := kcell hb2 (kcell hb1 (by go_simp)); have hlt1 := World.block_lt_of_cell? _ _ (kcell hb1 (b := w.heap.size + 1) (o := 1) (v := .slice none 0 0) (by go_simp)); have y0 : w2.frozen? ⟨w.heap.size + 1, 0, none⟩ = false := kfroz hb2 hlt1 (kfroz hb1 (by simp) (by go_simp)); have y1 : w2.frozen? ⟨w.heap.size + 1, 1, none⟩ = false := kfroz hb2 hlt1 (kfroz hb1 (by simp) (by go_simp)); have y2 : w2.frozen? ⟨w.heap.size + 1, 2, none⟩ = false := kfroz hb2 hlt1 (kfroz hb1 (by simp) (by go_simp))
  refine hK.out _ _ (AftR.of hb2) ?_
  clear hK K
  try simp only [Act.put, List.setIfInBounds_toArray, List.set_cons_zero, List.set_cons_succ]
  (refine regr_take 9 (v := ?_) (by rfl) (by kernel_rfl) (by kernel_rfl) (by kernel_rfl) (by exact fun _ _ _ h => h) (by rfl) ?_ ?_; rotate_left; focus (intro w hSw; go_simp; try with_reducible rfl))
  simp only [Act.put, List.setIfInBounds_toArray, List.set_cons_zero, List.set_cons_succ]
  refine regr_call 10 (by kernel_rfl) (by rfl) (fun K hK => ?_)
  go_simp
  refine hK.out _ _ (grow_set3 _ _ _ _ _) ?_
  clear hK K
  try simp only [Act.put, List.setIfInBounds_toArray, List.set_cons_zero, List.set_cons_succ]
  refine wpAnyH_done (by kernel_rfl) ?_ _
  have i1 : IT (w.heap.size + 2) w1 B1 m1 d1 (p.warnings.map .ofText) := IT.mono (base := _) (((ho1.arr (by decide)).mono (S' := fun b => (((w.alloc (.cells #[.slice A0 n0 c0, .slice A1 n1 c1, .slice A2 n2 c2] 26)).alloc (.cells #[.string ⟨#[]⟩, .slice none 0 0, .slice none 0 0] 38)).drew).heap.size ≤ b) fun b h _ => h.1).imp fun _ _ _ h => h.imp fun _ _ _ _ h => (h.after hb1).mono fun _ h _ => h.elim) (by simp)
  have i2 : IT (w.heap.size + 2) w2 B2 m2 d2 (p.payload.map .ofEntry) := IT.mono (base := _) (((ho2.arr (by decide)).mono (S' := fun b => w1.heap.size ≤ b) fun b h _ => h.1).imp fun _ _ _ h => h.imp fun _ _ _ _ h => (h.after hb2).mono fun _ h _ => h.elim) (by have := hb1.size; simp at this; omega)
  have hbel : Below w.heap.size w w2 := Below.trans HB.out ((seqB hb1 hb2).mono (by simp; omega))
  go_wp2_with fail
  refine bodyPost_ret (v := .agg #[.string (str p.tracing), .slice B1 m1 d1, .slice B2 m2 d2]) (by simp [results, Try.results10, go_sem, x0, x1, x2]) rfl ?_
  exact ⟨_, _, _, _, _, _, rfl, (((((i1.after hb2).set (by simp) _).set (by simp) _).set (by simp) _).mono (by omega)), ((((i2.set (by simp) _).set (by simp) _).set (by simp) _).mono (by omega)), (by repeat (first | exact Below.refl _ _ | assumption | refine Below.drew ?_ | refine below_drewN ?_ _ | refine Below.alloc ?_ (by first | (simp; done) | omega | (simp; omega)) _ | refine Below.setCell ?_ (by first | (simp; done) | omega | (simp; omega)) _))⟩
end Go.Proofs.Sb
