/- Walks over prefix.Response, prefix.Request. Conditions: lengths up to 2^47. -/
import Derived.Test.YtpgcadicamnpkaaPreb
set_option linter.unusedVariables false
set_option linter.unusedSimpArgs false
namespace Go.Proofs.Sb
open Go.RowKit _root_.Sb

set_option maxHeartbeats 2000000 in
set_option maxRecDepth 100000 in
theorem resp_any {S : Nat → Prop} {A : Option Addr} {m c f : Nat} {bs : B} {w : World} (hs : Sl S w A m c bs) (hm : m ≤ 140737488355328) (hf : f < 256) (r : Res Pre) (hr : readR f respParts Pre.none bs = r) :
    Calls Try.prog 11 #[.int .u8 (f : Int), .slice A m c] w fun e w' => ∃ A0 n0 c0 A1 n1 c1 A2 n2 c2 A3 n3 c3, e = .returned (.tuple #[.agg #[.slice A0 n0 c0, .slice A1 n1 c1, .slice A2 n2 c2], .slice A3 n3 c3, .int .i64 (rerr r)]) ∧
      Sl (fun b => w.heap.size ≤ b) w' A0 n0 c0 (rval Pre.none r).tracing ∧ Arr 1 strP (fun b => w.heap.size ≤ b) w' A1 n1 c1 (rval Pre.none r).warnings ∧ Arr 3 (entryP (fun b => w.heap.size ≤ b) w') (fun b => w.heap.size ≤ b) w' A2 n2 c2 (rval Pre.none r).payload ∧ Sl S w' A3 n3 c3 (rrest r) ∧ Below w.heap.size w w' := by
  have HR := Lib.hid hr; clear hr
  have HS := Lib.hid hs.lt; clear hs
  go_enter Try.func11, Try.ntmps11
  go_wp2_with fail
  refine (read_any (HS.out.after (by repeat (first | exact Below.refl _ _ | assumption | refine Below.drew ?_ | refine below_drewN ?_ _ | refine Below.alloc ?_ (by first | (simp; done) | omega | (simp; omega)) _ | refine Below.setCell ?_ (by first | (simp; done) | omega | (simp; omega)) _))) hm hf (l := respParts) (arr_new _ #[.int .u8 2, .func (.func 22) #[] #[], .int .u8 8, .func (.func 23) #[] #[], .int .u8 4, .func (.func 24) #[] #[]] respParts 3 ⟨[_, _], [_, _, _, _], rfl, rfl, rfl, [_, _], [_, _], rfl, rfl, rfl, [_, _], [], rfl, rfl, rfl, rfl⟩ rfl (by decide) (by simp)) (by intro x hx; simpa [respParts] using hx) r HR.out).mono ?_
  rintro e w1 ⟨A0, n0, c0, A1, n1, c1, A2, n2, c2, A3, n3, c3, rfl, h0, h1, h2, h3, hb⟩
  obtain ⟨hc, hfz⟩ := bcell hb
  have hbel : Below w.heap.size w w1 := Below.trans (by repeat (first | exact Below.refl _ _ | assumption | refine Below.drew ?_ | refine below_drewN ?_ _ | refine Below.alloc ?_ (by first | (simp; done) | omega | (simp; omega)) _ | refine Below.setCell ?_ (by first | (simp; done) | omega | (simp; omega)) _)) (hb.mono (by simp; omega))
  have hz : w.heap.size + 1 < w1.heap.size := by have := hb.size; simp at this; omega
  have x0 : w1.cell? ⟨w.heap.size, 0, none⟩ = some (.slice none 0 0) := kcell hb (by go_simp)
  have x1 : w1.cell? ⟨w.heap.size, 1, none⟩ = some (.slice none 0 0) := kcell hb (by go_simp)
  have x2 : w1.cell? ⟨w.heap.size, 2, none⟩ = some (.slice none 0 0) := kcell hb (by go_simp)
  have H0 := Lib.hid h0; clear h0
  have H1 := Lib.hid h1; clear h1
  have H2 := Lib.hid h2; clear h2
  have H3 := Lib.hid h3; clear h3
  go_wp2_with fail
  refine bodyPost_ret (v := .tuple #[.agg #[.slice A0 n0 c0, .slice A1 n1 c1, .slice A2 n2 c2], .slice A3 n3 c3, .int .i64 (rerr r)]) (by simp [results, Try.results11, go_sem, x0, x1, x2]) rfl ?_
  exact ⟨_, _, _, _, _, _, _, _, _, _, _, _, rfl, (((H0.out.setCell (fun b (h : _ ≤ b) => by simp at h ⊢; omega) _).setCell (fun b (h : _ ≤ b) => by simp at h ⊢; omega) _).setCell (fun b (h : _ ≤ b) => by simp at h ⊢; omega) _).mono (S' := fun b => w.heap.size ≤ b) fun b (h : _ ≤ b) _ => by simp at h; omega, (((H1.out.setCell (fun b (h : _ ≤ b) => by simp at h ⊢; omega) _).setCell (fun b (h : _ ≤ b) => by simp at h ⊢; omega) _).setCell (fun b (h : _ ≤ b) => by simp at h ⊢; omega) _).mono (S' := fun b => w.heap.size ≤ b) fun b (h : _ ≤ b) _ => by simp at h; omega, ((((H2.out.setCell (fun b (h : _ ≤ b) => by simp at h ⊢; omega) _).setCell (fun b (h : _ ≤ b) => by simp at h ⊢; omega) _).setCell (fun b (h : _ ≤ b) => by simp at h ⊢; omega) _).mono (S' := fun b => w.heap.size ≤ b) fun b (h : _ ≤ b) _ => by simp at h; omega).imp fun _ _ _ h => h.imp fun _ _ _ _ h => (((h.setCell (fun b (h : _ ≤ b) => by simp at h ⊢; omega) _).setCell (fun b (h : _ ≤ b) => by simp at h ⊢; omega) _).setCell (fun b (h : _ ≤ b) => by simp at h ⊢; omega) _).mono (S' := fun b => w.heap.size ≤ b) fun b (h : _ ≤ b) _ => by simp at h; omega, (((H3.out.setCell (fun b h => by have := h.2; simp; omega) _).setCell (fun b h => by have := h.2; simp; omega) _).setCell (fun b h => by have := h.2; simp; omega) _).mono fun b h _ => h.1, (by repeat (first | exact Below.refl _ _ | assumption | refine Below.drew ?_ | refine below_drewN ?_ _ | refine Below.alloc ?_ (by first | (simp; done) | omega | (simp; omega)) _ | refine Below.setCell ?_ (by first | (simp; done) | omega | (simp; omega)) _))⟩

set_option maxHeartbeats 2000000 in
set_option maxRecDepth 100000 in
theorem req_any {S : Nat → Prop} {A : Option Addr} {m c f : Nat} {bs : B} {w : World} (hs : Sl S w A m c bs) (hm : m ≤ 140737488355328) (hf : f < 256) (r : Res Pre) (hr : readR f reqParts Pre.none bs = r) :
    Calls Try.prog 14 #[.int .u8 (f : Int), .slice A m c] w fun e w' => ∃ A0 n0 c0 A1 n1 c1 A2 n2 c2 A3 n3 c3, e = .returned (.tuple #[.agg #[.slice A0 n0 c0, .slice A1 n1 c1, .slice A2 n2 c2], .slice A3 n3 c3, .int .i64 (rerr r)]) ∧
      Sl (fun b => w.heap.size ≤ b) w' A0 n0 c0 (rval Pre.none r).tracing ∧ Arr 1 strP (fun b => w.heap.size ≤ b) w' A1 n1 c1 (rval Pre.none r).warnings ∧ Arr 3 (entryP (fun b => w.heap.size ≤ b) w') (fun b => w.heap.size ≤ b) w' A2 n2 c2 (rval Pre.none r).payload ∧ Sl S w' A3 n3 c3 (rrest r) ∧ Below w.heap.size w w' := by
  have HR := Lib.hid hr; clear hr
  have HS := Lib.hid hs.lt; clear hs
  go_enter Try.func14, Try.ntmps14
  go_wp2_with fail
  refine (read_any (HS.out.after (by repeat (first | exact Below.refl _ _ | assumption | refine Below.drew ?_ | refine below_drewN ?_ _ | refine Below.alloc ?_ (by first | (simp; done) | omega | (simp; omega)) _ | refine Below.setCell ?_ (by first | (simp; done) | omega | (simp; omega)) _))) hm hf (l := reqParts) (arr_new _ #[.int .u8 4, .func (.func 24) #[] #[]] reqParts 1 ⟨[_, _], [], rfl, rfl, rfl, rfl⟩ rfl (by decide) (by simp)) (by intro x hx; simp [reqParts] at hx; simp [hx]) r HR.out).mono ?_
  rintro e w1 ⟨A0, n0, c0, A1, n1, c1, A2, n2, c2, A3, n3, c3, rfl, h0, h1, h2, h3, hb⟩
  obtain ⟨hc, hfz⟩ := bcell hb
  have hbel : Below w.heap.size w w1 := Below.trans (by repeat (first | exact Below.refl _ _ | assumption | refine Below.drew ?_ | refine below_drewN ?_ _ | refine Below.alloc ?_ (by first | (simp; done) | omega | (simp; omega)) _ | refine Below.setCell ?_ (by first | (simp; done) | omega | (simp; omega)) _)) (hb.mono (by simp; omega))
  have hz : w.heap.size + 1 < w1.heap.size := by have := hb.size; simp at this; omega
  have x0 : w1.cell? ⟨w.heap.size, 0, none⟩ = some (.slice none 0 0) := kcell hb (by go_simp)
  have x1 : w1.cell? ⟨w.heap.size, 1, none⟩ = some (.slice none 0 0) := kcell hb (by go_simp)
  have x2 : w1.cell? ⟨w.heap.size, 2, none⟩ = some (.slice none 0 0) := kcell hb (by go_simp)
  have H0 := Lib.hid h0; clear h0
  have H1 := Lib.hid h1; clear h1
  have H2 := Lib.hid h2; clear h2
  have H3 := Lib.hid h3; clear h3
  go_wp2_with fail
  refine bodyPost_ret (v := .tuple #[.agg #[.slice A0 n0 c0, .slice A1 n1 c1, .slice A2 n2 c2], .slice A3 n3 c3, .int .i64 (rerr r)]) (by simp [results, Try.results14, go_sem, x0, x1, x2]) rfl ?_
  exact ⟨_, _, _, _, _, _, _, _, _, _, _, _, rfl, (((H0.out.setCell (fun b (h : _ ≤ b) => by simp at h ⊢; omega) _).setCell (fun b (h : _ ≤ b) => by simp at h ⊢; omega) _).setCell (fun b (h : _ ≤ b) => by simp at h ⊢; omega) _).mono (S' := fun b => w.heap.size ≤ b) fun b (h : _ ≤ b) _ => by simp at h; omega, (((H1.out.setCell (fun b (h : _ ≤ b) => by simp at h ⊢; omega) _).setCell (fun b (h : _ ≤ b) => by simp at h ⊢; omega) _).setCell (fun b (h : _ ≤ b) => by simp at h ⊢; omega) _).mono (S' := fun b => w.heap.size ≤ b) fun b (h : _ ≤ b) _ => by simp at h; omega, ((((H2.out.setCell (fun b (h : _ ≤ b) => by simp at h ⊢; omega) _).setCell (fun b (h : _ ≤ b) => by simp at h ⊢; omega) _).setCell (fun b (h : _ ≤ b) => by simp at h ⊢; omega) _).mono (S' := fun b => w.heap.size ≤ b) fun b (h : _ ≤ b) _ => by simp at h; omega).imp fun _ _ _ h => h.imp fun _ _ _ _ h => (((h.setCell (fun b (h : _ ≤ b) => by simp at h ⊢; omega) _).setCell (fun b (h : _ ≤ b) => by simp at h ⊢; omega) _).setCell (fun b (h : _ ≤ b) => by simp at h ⊢; omega) _).mono (S' := fun b => w.heap.size ≤ b) fun b (h : _ ≤ b) _ => by simp at h; omega, (((H3.out.setCell (fun b h => by have := h.2; simp; omega) _).setCell (fun b h => by have := h.2; simp; omega) _).setCell (fun b h => by have := h.2; simp; omega) _).mono fun b h _ => h.1, (by repeat (first | exact Below.refl _ _ | assumption | refine Below.drew ?_ | refine below_drewN ?_ _ | refine Below.alloc ?_ (by first | (simp; done) | omega | (simp; omega)) _ | refine Below.setCell ?_ (by first | (simp; done) | omega | (simp; omega)) _))⟩
end Go.Proofs.Sb
