/- Walks over prefix.trace, warn, load: one part of what stands ahead of a body. Conditions: lengths up to 2^47. (written by gen_prefix.py) -/
import Derived.Test.YtpgcadicamnpkaaPlainf
import Derived.Test.YtpgcadicamnpkaaPlaind
import Derived.Test.YtpgcadicamnpkaaMapsd
import Derived.Test.YtpgcadicamnpkaaArrb
set_option linter.unusedVariables false
set_option linter.unusedSimpArgs false
namespace Go.Proofs.Sb
open Go.RowKit _root_.Sb

/-- the three cells of a prefix lie at pb; what they lead to lies elsewhere, from block base on -/
def preAt (base : Nat) (w : World) (pb : Nat) (p : Pre) : Prop := ∃ A0 n0 c0 A1 n1 c1 A2 n2 c2, w.cell? ⟨pb, 0, none⟩ = some (.slice A0 n0 c0) ∧ w.cell? ⟨pb, 1, none⟩ = some (.slice A1 n1 c1) ∧ w.cell? ⟨pb, 2, none⟩ = some (.slice A2 n2 c2) ∧
  Sl (fun b => base ≤ b ∧ b ≠ pb) w A0 n0 c0 p.tracing ∧ Arr 1 strP (fun b => base ≤ b ∧ b ≠ pb) w A1 n1 c1 p.warnings ∧ Arr 3 (entryP (fun b => base ≤ b ∧ b ≠ pb) w) (fun b => base ≤ b ∧ b ≠ pb) w A2 n2 c2 p.payload ∧ ∀ o, w.frozen? ⟨pb, o, none⟩ = false
theorem preAt.after {base pb : Nat} {w w' : World} {p : Pre} (h : preAt base w pb p) (hb : Below w.heap.size w w') : preAt base w' pb p := by
  obtain ⟨A0, n0, c0, A1, n1, c1, A2, n2, c2, h0, h1, h2, h3, h4, h5, h6⟩ := h
  have hlt := World.block_lt_of_cell? w ⟨pb, 0, none⟩ h0
  exact ⟨A0, n0, c0, A1, n1, c1, A2, n2, c2, kcell hb h0, kcell hb h1, kcell hb h2, h3.after hb, h4.after hb, (h5.after hb).imp fun _ _ _ h => h.imp fun _ _ _ _ h => h.after hb, fun o => kfroz hb hlt (h6 o)⟩

set_option maxHeartbeats 1000000 in
theorem trace_any {S : Nat → Prop} {A : Option Addr} {m c : Nat} {bs : B} {base pb : Nat} {p : Pre} {w : World} (hb0 : base ≤ w.heap.size) (hp : preAt base w pb p) (hs : Sl S w A m c bs) (hS : ∀ b, S b → b ≠ pb) (hm : m ≤ 140737488355328) (r : Res Pre) (hr : partR 0 p bs = r) :
    Calls Try.prog 22 #[.pointer (some ⟨pb, 0, none⟩), .slice A m c] w fun e w' => ∃ A2 n2 c2, e = .returned (.tuple #[.slice A2 n2 c2, .int .i64 (rerr r)]) ∧ Sl S w' A2 n2 c2 (rrest r) ∧ (∀ x, r = .ok x → preAt base w' pb x.1) ∧ w.grownBy w' (some pb) := by
  obtain ⟨rg, hrg⟩ : ∃ r, takeN 16 bs = r := ⟨_, rfl⟩
  obtain rfl : rmap (fun x => { p with tracing := x }) rg = r := by
    rw [← hr, ← hrg]
    unfold partR
    rw [if_pos rfl]
    cases takeN 16 bs <;> rfl
  have HG := Lib.hid hrg; clear hrg hr
  obtain ⟨A0, n0, c0, A1, n1, c1, A2, n2, c2, p0, p1, p2, q0, q1, q2, hf⟩ := hp
  have hlt := World.block_lt_of_cell? w ⟨pb, 0, none⟩ p0
  have HF := Lib.hid hf; clear hf
  have f0 := HF.out 0
  have Q0 := Lib.hid q0; clear q0
  have Q1 := Lib.hid q1; clear q1
  have Q2 := Lib.hid q2; clear q2
  have HS := Lib.hid hs; clear hs
  have HSS := Lib.hid hS; clear hS
  go_enter Try.func22, Try.ntmps22
  go_wp2_with fail
  refine (take_any (HS.out.after (Below.refl _ _)) hm 16 (by omega) rg (by simpa using HG.out)).mono ?_
  rintro e w1 ⟨A5, n5, c5, A6, n6, c6, rfl, ho5, hs6, hb1⟩
  have r0 := kcell hb1 p0
  have r1 := kcell hb1 p1
  have r2 := kcell hb1 p2
  have g0 := kfroz hb1 hlt f0
  have GF := Lib.hid (fun o => kfroz hb1 hlt (HF.out o))
  clear p0 p1 p2 f0
  go_wp2_with fail
  go_ret2
  refine ⟨_, _, _, ?_, by rw [rrest_rmap]; exact (hs6).setCell (fun b h => HSS.out b h) _, ?_, grow_seq (grow_of_below hb1) (grow_setCell _ _ _ _) (fun _ e => .inr e)⟩
  · cases rg <;> rfl
  · intro x hx
    cases rg with
    | error e => cases hx
    | ok y =>
      injection hx with hx
      subst hx
      refine ⟨A5, n5, c5, A1, n1, c1, A2, n2, c2, by go_simp, by go_simp, by go_simp, (ho5.sl.mono (S' := fun b => base ≤ b ∧ b ≠ pb) fun b h1 _ => ⟨by have h1 : w.heap.size ≤ b := h1; omega, by have h1 : w.heap.size ≤ b := h1; omega⟩).setCell (fun _ h => h.2) _, (Q1.out.after hb1).setCell (fun _ h => h.2) _, ((Q2.out.after hb1).setCell (fun _ h => h.2) _).imp fun _ _ _ h => h.imp fun _ _ _ _ h => (h.after hb1).setCell (fun _ h => h.2) _, fun o => ?_⟩
      have := GF.out o
      go_simp

set_option maxHeartbeats 1000000 in
theorem warn_any {S : Nat → Prop} {A : Option Addr} {m c : Nat} {bs : B} {base pb : Nat} {p : Pre} {w : World} (hb0 : base ≤ w.heap.size) (hp : preAt base w pb p) (hs : Sl S w A m c bs) (hS : ∀ b, S b → b ≠ pb) (hm : m ≤ 140737488355328) (r : Res Pre) (hr : partR 1 p bs = r) :
    Calls Try.prog 23 #[.pointer (some ⟨pb, 0, none⟩), .slice A m c] w fun e w' => ∃ A2 n2 c2, e = .returned (.tuple #[.slice A2 n2 c2, .int .i64 (rerr r)]) ∧ Sl S w' A2 n2 c2 (rrest r) ∧ (∀ x, r = .ok x → preAt base w' pb x.1) ∧ w.grownBy w' (some pb) := by
  obtain ⟨rg, hrg⟩ : ∃ r, getTexts bs = r := ⟨_, rfl⟩
  obtain rfl : rmap (fun x => { p with warnings := x }) rg = r := by
    rw [← hr, ← hrg]
    unfold partR
    rw [if_neg (by decide), if_pos rfl]
    cases getTexts bs <;> rfl
  have HG := Lib.hid hrg; clear hrg hr
  obtain ⟨A0, n0, c0, A1, n1, c1, A2, n2, c2, p0, p1, p2, q0, q1, q2, hf⟩ := hp
  have hlt := World.block_lt_of_cell? w ⟨pb, 0, none⟩ p0
  have HF := Lib.hid hf; clear hf
  have f0 := HF.out 1
  have Q0 := Lib.hid q0; clear q0
  have Q1 := Lib.hid q1; clear q1
  have Q2 := Lib.hid q2; clear q2
  have HS := Lib.hid hs; clear hs
  have HSS := Lib.hid hS; clear hS
  go_enter Try.func23, Try.ntmps23
  go_wp2_with fail
  refine (getTexts_any (HS.out.after (Below.refl _ _)) hm rg HG.out).mono ?_
  rintro e w1 ⟨A5, n5, c5, A6, n6, c6, rfl, ho5, hs6, hb1⟩
  have r0 := kcell hb1 p0
  have r1 := kcell hb1 p1
  have r2 := kcell hb1 p2
  have g0 := kfroz hb1 hlt f0
  have GF := Lib.hid (fun o => kfroz hb1 hlt (HF.out o))
  clear p0 p1 p2 f0
  go_wp2_with fail
  go_ret2
  refine ⟨_, _, _, ?_, by rw [rrest_rmap]; exact (hs6).setCell (fun b h => HSS.out b h) _, ?_, grow_seq (grow_of_below hb1) (grow_setCell _ _ _ _) (fun _ e => .inr e)⟩
  · cases rg <;> rfl
  · intro x hx
    cases rg with
    | error e => cases hx
    | ok y =>
      injection hx with hx
      subst hx
      refine ⟨A0, n0, c0, A5, n5, c5, A2, n2, c2, by go_simp, by go_simp, by go_simp, (Q0.out.after hb1).setCell (fun _ h => h.2) _, ((ho5.arr (by decide)).mono (S' := fun b => base ≤ b ∧ b ≠ pb) fun b h1 _ => ⟨by have := h1.1; omega, by have := h1.1; omega⟩).setCell (fun _ h => h.2) _, ((Q2.out.after hb1).setCell (fun _ h => h.2) _).imp fun _ _ _ h => h.imp fun _ _ _ _ h => (h.after hb1).setCell (fun _ h => h.2) _, fun o => ?_⟩
      have := GF.out o
      go_simp

set_option maxHeartbeats 1000000 in
theorem load_any {S : Nat → Prop} {A : Option Addr} {m c : Nat} {bs : B} {base pb : Nat} {p : Pre} {w : World} (hb0 : base ≤ w.heap.size) (hp : preAt base w pb p) (hs : Sl S w A m c bs) (hS : ∀ b, S b → b ≠ pb) (hm : m ≤ 140737488355328) (r : Res Pre) (hr : partR 2 p bs = r) :
    Calls Try.prog 24 #[.pointer (some ⟨pb, 0, none⟩), .slice A m c] w fun e w' => ∃ A2 n2 c2, e = .returned (.tuple #[.slice A2 n2 c2, .int .i64 (rerr r)]) ∧ Sl S w' A2 n2 c2 (rrest r) ∧ (∀ x, r = .ok x → preAt base w' pb x.1) ∧ w.grownBy w' (some pb) := by
  obtain ⟨rg, hrg⟩ : ∃ r, getL entryR bs = r := ⟨_, rfl⟩
  obtain rfl : rmap (fun x => { p with payload := x }) rg = r := by
    rw [← hr, ← hrg]
    unfold partR
    rw [if_neg (by decide), if_neg (by decide)]
    cases getL entryR bs <;> rfl
  have HG := Lib.hid hrg; clear hrg hr
  obtain ⟨A0, n0, c0, A1, n1, c1, A2, n2, c2, p0, p1, p2, q0, q1, q2, hf⟩ := hp
  have hlt := World.block_lt_of_cell? w ⟨pb, 0, none⟩ p0
  have HF := Lib.hid hf; clear hf
  have f0 := HF.out 2
  have Q0 := Lib.hid q0; clear q0
  have Q1 := Lib.hid q1; clear q1
  have Q2 := Lib.hid q2; clear q2
  have HS := Lib.hid hs; clear hs
  have HSS := Lib.hid hS; clear hS
  go_enter Try.func24, Try.ntmps24
  go_wp2_with fail
  refine (getEntries_any (HS.out.after (Below.refl _ _)) hm rg HG.out).mono ?_
  rintro e w1 ⟨A5, n5, c5, A6, n6, c6, rfl, ho5, hs6, hb1⟩
  have r0 := kcell hb1 p0
  have r1 := kcell hb1 p1
  have r2 := kcell hb1 p2
  have g0 := kfroz hb1 hlt f0
  have GF := Lib.hid (fun o => kfroz hb1 hlt (HF.out o))
  clear p0 p1 p2 f0
  go_wp2_with fail
  go_ret2
  refine ⟨_, _, _, ?_, by rw [rrest_rmap]; exact (hs6).setCell (fun b h => HSS.out b h) _, ?_, grow_seq (grow_of_below hb1) (grow_setCell _ _ _ _) (fun _ e => .inr e)⟩
  · cases rg <;> rfl
  · intro x hx
    cases rg with
    | error e => cases hx
    | ok y =>
      injection hx with hx
      subst hx
      refine ⟨A0, n0, c0, A1, n1, c1, A5, n5, c5, by go_simp, by go_simp, by go_simp, (Q0.out.after hb1).setCell (fun _ h => h.2) _, (Q1.out.after hb1).setCell (fun _ h => h.2) _, ((ho5.mono (S' := fun b => base ≤ b ∧ b ≠ pb) fun b h1 _ => ⟨by have h1 : w.heap.size ≤ b := h1; omega, by have h1 : w.heap.size ≤ b := h1; omega⟩).setCell (fun _ h => h.2) _).imp fun _ _ _ h => h.imp fun _ _ _ _ h => (h.mono (S' := fun b => base ≤ b ∧ b ≠ pb) fun b h1 _ => ⟨by have h1 : w.heap.size ≤ b := h1; omega, by have h1 : w.heap.size ≤ b := h1; omega⟩).setCell (fun _ h => h.2) _, fun o => ?_⟩
      have := GF.out o
      go_simp
end Go.Proofs.Sb
