/- Walks over signalboxref07.Get. Conditions: lengths up to 2^47. (written by gen_rpre.py) -/
import Derived.Test.YtpgcadicamnpkaaPreb
import Derived.Test.YtpgcadicamnpkaaRefd
set_option linter.unusedVariables false
set_option linter.unusedSimpArgs false
namespace Go.Proofs.Sb
open Go.RowKit _root_.Sb

/-- items at an address, in blocks from base on -/
def IT (base : Nat) (w : World) (A : Option Addr) (n c : Nat) (l : List Thing) : Prop := Arr 5 (itemP (fun b => base ≤ b) w) (fun b => base ≤ b) w A n c l
section
variable {base : Nat} {w w' : World} {A : Option Addr} {n c : Nat} {l : List Thing}
theorem IT.nil : IT base w none 0 0 [] := Arr.nil
theorem IT.after (h : IT base w A n c l) (hb : Below w.heap.size w w') : IT base w' A n c l := (Arr.after h hb).imp fun _ _ _ h => h.imp fun _ _ _ _ h => h.after hb
theorem IT.set (h : IT base w A n c l) {p : Addr} (hp : p.block < base) (u : Value) : IT base (w.setCell p u) A n c l :=
  (Arr.setCell h (fun b h => by have h : base ≤ b := h; omega) u).imp fun _ _ _ h => h.imp fun _ _ _ _ h => h.setCell (fun b h => by have h : base ≤ b := h; omega) u
theorem IT.mono {base' : Nat} (h : IT base w A n c l) (hb : base' ≤ base) : IT base' w A n c l :=
  (Arr.mono h (S' := fun b => base' ≤ b) fun b h _ => Nat.le_trans hb h).imp fun _ _ _ h => h.imp fun _ _ _ _ h => h.mono fun b h _ => Nat.le_trans hb h
end
theorem flag_int {f g : Nat} {t : Bool} (h : flagB f g = t) : (((f : Int) / (g : Int) % 2) == 1) = t := by
  rw [← h]
  unfold flagB
  have e : ((f : Int) / (g : Int) % 2) = ((f / g % 2 : Nat) : Int) := by simp
  rw [e]
  have : f / g % 2 = 0 ∨ f / g % 2 = 1 := by omega
  rcases this with h | h <;> rw [h] <;> rfl
theorem readR_c_skip {f g k : Nat} {l : List (Nat × Nat)} {p : Pre} {b : B} {r : Res Pre} (h : readR f ((g, k) :: l) p b = r) (hf : flagB f g = false) : readR f l p b = r := by
  rw [← h]; simp only [readR, hf]; rfl
theorem readR_c_err {f g k : Nat} {l : List (Nat × Nat)} {p : Pre} {b : B} {r : Res Pre} {e : Int} (h : readR f ((g, k) :: l) p b = r) (hf : flagB f g = true) (he : partR k p b = .error e) : r = .error e := by
  rw [← h]; simp only [readR, hf, he]; rfl
theorem readR_c_ok {f g k : Nat} {l : List (Nat × Nat)} {p q : Pre} {b c : B} {r : Res Pre} (h : readR f ((g, k) :: l) p b = r) (hf : flagB f g = true) (he : partR k p b = .ok (q, c)) : readR f l q c = r := by
  rw [← h]; simp only [readR, hf, he]; rfl
theorem partR_0 {p : Pre} {b : B} {r : Res B} (h : takeN 16 b = r) : partR 0 p b = rmap (fun x => { p with tracing := x }) r := by subst h; unfold partR; rw [if_pos rfl]; cases takeN 16 b <;> rfl
theorem partR_1 {p : Pre} {b : B} {r : Res (List B)} (h : getTexts b = r) : partR 1 p b = rmap (fun x => { p with warnings := x }) r := by subst h; unfold partR; rw [if_neg (by decide), if_pos rfl]; cases getTexts b <;> rfl
theorem partR_2 {p : Pre} {b : B} {r : Res (List (B × Val))} (h : getL entryR b = r) : partR 2 p b = rmap (fun x => { p with payload := x }) r := by subst h; unfold partR; rw [if_neg (by decide), if_neg (by decide)]; cases getL entryR b <;> rfl
theorem AtR.rmap {α β : Type} {bs : B} {q : Nat} {h : α → β} {r : Res α} {y : β × B} (H : AtR bs q (rmap h r)) (e : rmap h r = .ok y) : q ≤ bs.length ∧ bs.drop q = y.2 := H.1 y e

set_option maxHeartbeats 8000000 in
set_option maxRecDepth 100000 in
theorem rpref_any {S : Nat → Prop} {A : Option Addr} {m c a f : Nat} {bs : B} {w : World} (hs : Sl S w A m c bs) (hm : m ≤ 140737488355328) (ha : a ≤ m) (hf : f < 256) (r : Res Pre) (hr : readR f reqParts Pre.none (bs.drop a) = r) :
    Calls Try.prog 13 #[.bool false, .int .u8 (f : Int), .slice A m c, .int .i64 (a : Int)] w fun e w' => ∃ A1 n1 c1 A2 n2 c2, ∃ q : Nat, e = .returned (.tuple #[.agg #[.string (str (rval Pre.none r).tracing), .slice A1 n1 c1, .slice A2 n2 c2], .int .i64 (q : Int), .int .i64 (rerr r)]) ∧
      IT w.heap.size w' A1 n1 c1 ((rval Pre.none r).warnings.map .ofText) ∧ IT w.heap.size w' A2 n2 c2 ((rval Pre.none r).payload.map .ofEntry) ∧ AtR bs q r ∧ Below w.heap.size w w' := by
  have hl := Lib.hid hs.len
  have hml : a ≤ bs.length := by have := hl.out; omega
  obtain ⟨ub, hub⟩ : ∃ u, bs.drop a = u := ⟨_, rfl⟩
  rw [hub] at hr
  have HD0 := Lib.hid hub; clear hub
  have HR0 := Lib.hid (show readR f [(4, 2)] Pre.none ub = r from hr); clear hr
  have HS := Lib.hid hs; clear hs
  go_enter Try.func13, Try.ntmps13
  cases hf0 : flagB f 4 with
  | false =>
    have hq0 := flag_int hf0
    have hq0 : (((f : Int) / 4 % 2) == 1) = false := hq0
    have HR1 := Lib.hid (readR_c_skip HR0.out hf0)
    clear hf0 HR0
    have h0 : r = .ok (⟨[], [], []⟩, ub) := HR1.out.symm
    subst h0
    clear HR1
    try simp only [rerr_ok, rval_ok]
    go_wp2_with fail
    refine bodyPost_ret (v := .tuple #[.agg #[.string (str []), .slice none 0 0, .slice none 0 0], .int .i64 (a : Int), .int .i64 0]) (by simp [results, Try.results13, go_sem, str]) rfl ?_
    exact ⟨none, 0, 0, none, 0, 0, a, rfl, IT.nil, IT.nil, AtR.ok (by have := hl.out; omega) HD0.out, (by repeat (first | exact Below.refl _ _ | assumption | refine Below.drew ?_ | refine below_drewN ?_ _ | refine Below.alloc ?_ (by first | (simp; done) | omega | (simp; omega)) _ | refine Below.setCell ?_ (by first | (simp; done) | omega | (simp; omega)) _))⟩
  | true =>
    have hq0 : (((f : Int) / 4 % 2) == 1) = true := flag_int hf0
    have HF0 := Lib.hid hf0; clear hf0
    obtain ⟨rk0, hrk⟩ : ∃ rk, getL entryR (ub) = rk := ⟨_, rfl⟩
    have HK0 := Lib.hid hrk; clear hrk
    go_wp2_with fail
    refine (rgeti3_any (HS.out.after (by repeat (first | exact Below.refl _ _ | assumption | refine Below.drew ?_ | refine below_drewN ?_ _ | refine Below.alloc ?_ (by first | (simp; done) | omega | (simp; omega)) _ | refine Below.setCell ?_ (by first | (simp; done) | omega | (simp; omega)) _))) hm (by have := hl.out; omega) (rmap (List.map Thing.ofEntry) rk0) (by rw [HD0.out, get_entries, HK0.out])).mono ?_
    rintro e w2 ⟨A0, n0, c0, q0, rfl, hit0, hat0, hb0⟩
    have x0 : w2.cell? ⟨w.heap.size, 0, none⟩ = some (.string (str [])) := kcell hb0 (by go_simp; rfl)
    have x1 : w2.cell? ⟨w.heap.size, 1, none⟩ = some (.slice none 0 0) := kcell hb0 (by go_simp)
    have x2 : w2.cell? ⟨w.heap.size, 2, none⟩ = some (.slice none 0 0) := kcell hb0 (by go_simp)
    have p0 : w2.cell? ⟨w.heap.size + 1, 0, none⟩ = some (.string (str [])) := kcell hb0 (by go_simp; rfl)
    have p1 : w2.cell? ⟨w.heap.size + 1, 1, none⟩ = some (.slice none 0 0) := kcell hb0 (by go_simp)
    have p2 : w2.cell? ⟨w.heap.size + 1, 2, none⟩ = some (.slice none 0 0) := kcell hb0 (by go_simp)
    have fy0 : w2.frozen? ⟨w.heap.size, 0, none⟩ = false := kfroz hb0 (by first | (simp; done) | (simp; omega)) (by go_simp)
    have fy1 : w2.frozen? ⟨w.heap.size, 1, none⟩ = false := kfroz hb0 (by first | (simp; done) | (simp; omega)) (by go_simp)
    have fy2 : w2.frozen? ⟨w.heap.size, 2, none⟩ = false := kfroz hb0 (by first | (simp; done) | (simp; omega)) (by go_simp)
    have fz0 : w2.frozen? ⟨w.heap.size + 1, 0, none⟩ = false := kfroz hb0 (by first | (simp; done) | (simp; omega)) (by go_simp)
    have fz1 : w2.frozen? ⟨w.heap.size + 1, 1, none⟩ = false := kfroz hb0 (by first | (simp; done) | (simp; omega)) (by go_simp)
    have fz2 : w2.frozen? ⟨w.heap.size + 1, 2, none⟩ = false := kfroz hb0 (by first | (simp; done) | (simp; omega)) (by go_simp)
    have hbel0 : Below w.heap.size w w2 := Below.trans (by repeat (first | exact Below.refl _ _ | assumption | refine Below.drew ?_ | refine below_drewN ?_ _ | refine Below.alloc ?_ (by first | (simp; done) | omega | (simp; omega)) _ | refine Below.setCell ?_ (by first | (simp; done) | omega | (simp; omega)) _)) (hb0.mono (by simp; omega))
    have hz0 : w.heap.size + 1 < w2.heap.size := World.block_lt_of_cell? w2 ⟨w.heap.size + 1, 0, none⟩ p0
    have hrer : rerr (rmap (List.map Thing.ofEntry) rk0) = rerr rk0 := rerr_rmap _ _
    rw [hrer]
    clear hrer
    cases rk0 with
    | error ek =>
      have hne : ek ≠ 0 := getL_ne (fun _ _ h => er_ne h) HK0.out
      try simp only [rerr_error]
      obtain rfl := readR_c_err HR0.out HF0.out (partR_2 HK0.out)
      clear HR0
      go_wp2_with fail
      refine bodyPost_ret (v := .tuple #[.agg #[.string (str []), .slice none 0 0, .slice none 0 0], .int .i64 0, .int .i64 ek]) (by simp [results, Try.results13, go_sem, str, x0, x1, x2]) rfl ?_
      exact ⟨_, _, _, _, _, _, 0, rfl, IT.nil, IT.nil, AtR.err, (by repeat (first | exact Below.refl _ _ | assumption | refine Below.drew ?_ | refine below_drewN ?_ _ | refine Below.alloc ?_ (by first | (simp; done) | omega | (simp; omega)) _ | refine Below.setCell ?_ (by first | (simp; done) | omega | (simp; omega)) _))⟩
    | ok pk =>
      obtain ⟨y10, u0⟩ := pk
      have hle0 : q0 ≤ bs.length := (AtR.rmap hat0 rfl).1
      have HD1 : Hid (bs.drop q0 = u0) := (AtR.rmap hat0 rfl).2
      have HR1 := Lib.hid (readR_c_ok HR0.out HF0.out (partR_2 HK0.out))
      have HI0 : Hid (IT (w.heap.size + 2) w2 A0 n0 c0 (y10.map Thing.ofEntry)) := IT.mono (base := _) hit0 (by first | (simp; done) | (simp; omega))
      try simp only [rerr_ok]
      clear hat0 HR0 hit0
      have h0 : r = .ok (⟨[], [], y10⟩, u0) := HR1.out.symm
      subst h0
      clear HR1
      try simp only [rerr_ok, rval_ok]
      go_wp2_with fail
      refine bodyPost_ret (v := .tuple #[.agg #[.string (str []), .slice none 0 0, .slice A0 n0 c0], .int .i64 (q0 : Int), .int .i64 0]) (by simp [results, Try.results13, go_sem, str, x0, x1, x2]) rfl ?_
      exact ⟨none, 0, 0, A0, n0, c0, q0, rfl, IT.nil, (((((HI0.out.set (by simp) _).set (by first | (simp; done) | (simp; omega)) _).set (by first | (simp; done) | (simp; omega)) _).set (by first | (simp; done) | (simp; omega)) _).mono (by omega)), AtR.ok (by have := hl.out; omega) HD1.out, (by repeat (first | exact Below.refl _ _ | assumption | refine Below.drew ?_ | refine below_drewN ?_ _ | refine Below.alloc ?_ (by first | (simp; done) | omega | (simp; omega)) _ | refine Below.setCell ?_ (by first | (simp; done) | omega | (simp; omega)) _))⟩
end Go.Proofs.Sb
