/- Walks over signalboxref08.flags, run. Conditions: sums of lengths up to 2^47. (written by gen_rqref.py) -/
import Derived.Test.YtdgmkmadlnmhbaaRra
import Derived.Deep.DeepCutAuto
set_option linter.unusedVariables false
set_option linter.unusedSimpArgs false
namespace Sb
open Go
theorem am_k0 : ∀ a b c d e f g : Bool, a = true → (((flK true b c d e f g 0 : Nat) : Int) + 1) % 256 = ((flK a b c d e f g 1 : Nat) : Int) := by decide +kernel
theorem an_k0 : ∀ a b c d e f g : Bool, a = false → ((flK false b c d e f g 0 : Nat) : Int) = ((flK a b c d e f g 1 : Nat) : Int) := by decide +kernel
theorem ao_k0 : ∀ a b c d e f g : Bool, a = true → (((flK a b c d e f g 0 : Nat) : Int) + 1) % 256 = ((flK a b c d e f g 1 : Nat) : Int) := by decide +kernel
theorem ap_k0 : ∀ a b c d e f g : Bool, a = false → ((flK a b c d e f g 0 : Nat) : Int) = ((flK a b c d e f g 1 : Nat) : Int) := by decide +kernel
theorem am_k1 : ∀ a b c d e f g : Bool, b = true → (((flK a true c d e f g 1 : Nat) : Int) + 2) % 256 = ((flK a b c d e f g 2 : Nat) : Int) := by decide +kernel
theorem an_k1 : ∀ a b c d e f g : Bool, b = false → ((flK a false c d e f g 1 : Nat) : Int) = ((flK a b c d e f g 2 : Nat) : Int) := by decide +kernel
theorem ao_k1 : ∀ a b c d e f g : Bool, b = true → (((flK a b c d e f g 1 : Nat) : Int) + 2) % 256 = ((flK a b c d e f g 2 : Nat) : Int) := by decide +kernel
theorem ap_k1 : ∀ a b c d e f g : Bool, b = false → ((flK a b c d e f g 1 : Nat) : Int) = ((flK a b c d e f g 2 : Nat) : Int) := by decide +kernel
theorem am_k2 : ∀ a b c d e f g : Bool, c = true → (((flK a b true d e f g 2 : Nat) : Int) + 4) % 256 = ((flK a b c d e f g 3 : Nat) : Int) := by decide +kernel
theorem an_k2 : ∀ a b c d e f g : Bool, c = false → ((flK a b false d e f g 2 : Nat) : Int) = ((flK a b c d e f g 3 : Nat) : Int) := by decide +kernel
theorem ao_k2 : ∀ a b c d e f g : Bool, c = true → (((flK a b c d e f g 2 : Nat) : Int) + 4) % 256 = ((flK a b c d e f g 3 : Nat) : Int) := by decide +kernel
theorem ap_k2 : ∀ a b c d e f g : Bool, c = false → ((flK a b c d e f g 2 : Nat) : Int) = ((flK a b c d e f g 3 : Nat) : Int) := by decide +kernel
theorem am_k3 : ∀ a b c d e f g : Bool, d = true → (((flK a b c true e f g 3 : Nat) : Int) + 8) % 256 = ((flK a b c d e f g 4 : Nat) : Int) := by decide +kernel
theorem an_k3 : ∀ a b c d e f g : Bool, d = false → ((flK a b c false e f g 3 : Nat) : Int) = ((flK a b c d e f g 4 : Nat) : Int) := by decide +kernel
theorem ao_k3 : ∀ a b c d e f g : Bool, d = true → (((flK a b c d e f g 3 : Nat) : Int) + 8) % 256 = ((flK a b c d e f g 4 : Nat) : Int) := by decide +kernel
theorem ap_k3 : ∀ a b c d e f g : Bool, d = false → ((flK a b c d e f g 3 : Nat) : Int) = ((flK a b c d e f g 4 : Nat) : Int) := by decide +kernel
theorem am_k4 : ∀ a b c d e f g : Bool, e = true → (((flK a b c d true f g 4 : Nat) : Int) + 16) % 256 = ((flK a b c d e f g 5 : Nat) : Int) := by decide +kernel
theorem an_k4 : ∀ a b c d e f g : Bool, e = false → ((flK a b c d false f g 4 : Nat) : Int) = ((flK a b c d e f g 5 : Nat) : Int) := by decide +kernel
theorem ao_k4 : ∀ a b c d e f g : Bool, e = true → (((flK a b c d e f g 4 : Nat) : Int) + 16) % 256 = ((flK a b c d e f g 5 : Nat) : Int) := by decide +kernel
theorem ap_k4 : ∀ a b c d e f g : Bool, e = false → ((flK a b c d e f g 4 : Nat) : Int) = ((flK a b c d e f g 5 : Nat) : Int) := by decide +kernel
theorem am_k5 : ∀ a b c d e f g : Bool, f = true → (((flK a b c d e true g 5 : Nat) : Int) + 32) % 256 = ((flK a b c d e f g 6 : Nat) : Int) := by decide +kernel
theorem an_k5 : ∀ a b c d e f g : Bool, f = false → ((flK a b c d e false g 5 : Nat) : Int) = ((flK a b c d e f g 6 : Nat) : Int) := by decide +kernel
theorem ao_k5 : ∀ a b c d e f g : Bool, f = true → (((flK a b c d e f g 5 : Nat) : Int) + 32) % 256 = ((flK a b c d e f g 6 : Nat) : Int) := by decide +kernel
theorem ap_k5 : ∀ a b c d e f g : Bool, f = false → ((flK a b c d e f g 5 : Nat) : Int) = ((flK a b c d e f g 6 : Nat) : Int) := by decide +kernel
theorem am_k6 : ∀ a b c d e f g : Bool, g = true → (((flK a b c d e f true 6 : Nat) : Int) + 64) % 256 = ((flK a b c d e f g 7 : Nat) : Int) := by decide +kernel
theorem an_k6 : ∀ a b c d e f g : Bool, g = false → ((flK a b c d e f false 6 : Nat) : Int) = ((flK a b c d e f g 7 : Nat) : Int) := by decide +kernel
theorem ao_k6 : ∀ a b c d e f g : Bool, g = true → (((flK a b c d e f g 6 : Nat) : Int) + 64) % 256 = ((flK a b c d e f g 7 : Nat) : Int) := by decide +kernel
theorem ap_k6 : ∀ a b c d e f g : Bool, g = false → ((flK a b c d e f g 6 : Nat) : Int) = ((flK a b c d e f g 7 : Nat) : Int) := by decide +kernel
theorem aq_1 : ∀ a b c d e f g : Bool, a = true → (1 : Int) = ((flK a b c d e f g 1 : Nat) : Int) := by decide +kernel
theorem aq_0 : ∀ a b c d e f g : Bool, a = false → (0 : Int) = ((flK a b c d e f g 1 : Nat) : Int) := by decide +kernel
theorem fl7_low : ∀ a b c d e f g : Bool, (decide (0 < fl7 a b c d e f g % 16) || decide (64 ≤ fl7 a b c d e f g)) = !noB (fl7 a b c d e f g) := by decide +kernel
end Sb
namespace Go.Proofs.Sb
open Go.RowKit _root_.Sb
/-- a run of the reference in its cells -/
def runV (p : Par) (A1 : Option Addr) (n1 c1 : Nat) (A2 : Option Addr) (n2 c2 : Nat) : List Value := [.int .u16 (p.cons : Int), .slice A1 n1 c1, .slice A2 n2 c2, .bool p.skip, .bool p.paged, .int .i32 p.page, .bool p.resumed, .int .i64 p.state.kind, .string (str p.state.bytes), .bool p.serially, .int .u16 (p.serial : Int), .bool p.timed, .int .i64 p.time]
/-- what its rows read as -/
structure RunR (S : Nat → Prop) (w : World) (A1 : Option Addr) (n1 c1 : Nat) (A2 : Option Addr) (n2 c2 : Nat) (lv : List Val) (ln : List B) : Prop where
  values : Arr 2 valRf S w A1 n1 c1 lv
  names : Arr 1 strP S w A2 n2 c2 ln
theorem goesRunR {A1 : Option Addr} {n1 c1 : Nat} {A2 : Option Addr} {n2 c2 : Nat} {lv : List Val} {ln : List B} : Goes fun S w => RunR S w A1 n1 c1 A2 n2 c2 lv ln :=
  ⟨fun h hs hk => ⟨goesArr.keep h.1 hs hk, goesArr.keep h.2 hs hk⟩, fun h hS => ⟨goesArr.mono h.1 hS, goesArr.mono h.2 hS⟩⟩
set_option maxHeartbeats 4000000 in
set_option maxRecDepth 100000 in
theorem rflags8_any {w : World} {p : Par} {A1 : Option Addr} {n1 c1 : Nat} {A2 : Option Addr} {n2 c2 : Nat} :
    Calls Try.prog 67 #[.agg (runV p A1 n1 c1 A2 n2 c2).toArray] w fun e w' => e = .returned (.int .u8 (fl7 (decide (0 < n1)) p.skip p.paged p.resumed p.serially p.timed (decide (0 < n2)) : Nat)) ∧ Below w.heap.size w w' := by
  obtain ⟨cs, values, names, sk, pd, pg, rs, sv, sl, sr, td, tm⟩ := p
  simp only [runV]
  go_enter Try.func67, Try.ntmps67
  go_upto_region 1 with fail
  obtain ⟨w1, hw1⟩ : ∃ w1, w1 = w.alloc (.cells [.int .u16 (cs : Int), .slice A1 n1 c1, .slice A2 n2 c2, .bool sk, .bool pd, .int .i32 pg, .bool rs, .int .i64 sv.kind, .string (str sv.bytes), .bool sl, .int .u16 (sr : Int), .bool td, .int .i64 tm].toArray 45) := ⟨_, rfl⟩
  rw [← hw1]
  have hB1 : Below w.heap.size w w1 := by rw [hw1]; exact (Below.refl _ _).alloc (Nat.le_refl _) _
  have hbx : Bx (fun b => b = w.heap.size) w1 w.heap.size [.int .u16 (cs : Int), .slice A1 n1 c1, .slice A2 n2 c2, .bool sk, .bool pd, .int .i32 pg, .bool rs, .int .i64 sv.kind, .string (str sv.bytes), .bool sl, .int .u16 (sr : Int), .bool td, .int .i64 tm] := by
    rw [hw1]; exact Bx.alloc w _ 45 (S := fun b => b = w.heap.size) rfl rfl
  have HBX := Lib.hid hbx; clear hbx hw1
  have HB1 := Lib.hid hB1; clear hB1
  have k1 := HBX.out.c 1 _ rfl
  have k2 := HBX.out.c 2 _ rfl
  have k3 := HBX.out.c 3 _ rfl
  have k4 := HBX.out.c 4 _ rfl
  have k6 := HBX.out.c 6 _ rfl
  have k9 := HBX.out.c 9 _ rfl
  have k11 := HBX.out.c 11 _ rfl
  go_upto_if 7 with fail
  go_cut [3] (fun f wx => f = .int .u8 ((flK (decide (0 < n1)) sk pd rs sl td (decide (0 < n2)) 1 : Nat) : Int) ∧ w1 = wx)
  case first =>
    rcases Bool.eq_false_or_eq_true (decide (0 < n1)) with hb | hb
    · have HB := Lib.hid hb
      have hb1 : 0 < n1 := by simpa using hb
      clear hb
      go_wp2_with fail
      go_meet
      exact ⟨congrArg (Value.int .u8) (by first | exact aq_1 _ _ _ _ _ _ _ HB.out | exact aq_0 _ _ _ _ _ _ _ HB.out | exact am_k0 _ _ _ _ _ _ _ HB.out | exact an_k0 _ _ _ _ _ _ _ HB.out | exact ao_k0 _ _ _ _ _ _ _ HB.out | exact ap_k0 _ _ _ _ _ _ _ HB.out), rfl⟩
    · have HB := Lib.hid hb
      have hb1 : ¬ 0 < n1 := by simpa using hb
      clear hb
      go_wp2_with fail
      go_meet
      exact ⟨congrArg (Value.int .u8) (by first | exact aq_1 _ _ _ _ _ _ _ HB.out | exact aq_0 _ _ _ _ _ _ _ HB.out | exact am_k0 _ _ _ _ _ _ _ HB.out | exact an_k0 _ _ _ _ _ _ _ HB.out | exact ao_k0 _ _ _ _ _ _ _ HB.out | exact ap_k0 _ _ _ _ _ _ _ HB.out), rfl⟩
  obtain ⟨rfl, rfl⟩ := hcut
  go_upto_if 11 with fail
  go_cut [3] (fun f wx => f = .int .u8 ((flK (decide (0 < n1)) sk pd rs sl td (decide (0 < n2)) 2 : Nat) : Int) ∧ w1 = wx)
  case first =>
    go_wp2_with fail
    all_goals (go_meet; exact ⟨congrArg (Value.int .u8) (by first | exact aq_1 _ _ _ _ _ _ _ (by assumption) | exact aq_0 _ _ _ _ _ _ _ (by assumption) | exact am_k1 _ _ _ _ _ _ _ (by assumption) | exact an_k1 _ _ _ _ _ _ _ (by assumption) | exact ao_k1 _ _ _ _ _ _ _ (by assumption) | exact ap_k1 _ _ _ _ _ _ _ (by assumption)), rfl⟩)
  obtain ⟨rfl, rfl⟩ := hcut
  go_upto_if 15 with fail
  go_cut [3] (fun f wx => f = .int .u8 ((flK (decide (0 < n1)) sk pd rs sl td (decide (0 < n2)) 3 : Nat) : Int) ∧ w1 = wx)
  case first =>
    go_wp2_with fail
    all_goals (go_meet; exact ⟨congrArg (Value.int .u8) (by first | exact aq_1 _ _ _ _ _ _ _ (by assumption) | exact aq_0 _ _ _ _ _ _ _ (by assumption) | exact am_k2 _ _ _ _ _ _ _ (by assumption) | exact an_k2 _ _ _ _ _ _ _ (by assumption) | exact ao_k2 _ _ _ _ _ _ _ (by assumption) | exact ap_k2 _ _ _ _ _ _ _ (by assumption)), rfl⟩)
  obtain ⟨rfl, rfl⟩ := hcut
  go_upto_if 19 with fail
  go_cut [3] (fun f wx => f = .int .u8 ((flK (decide (0 < n1)) sk pd rs sl td (decide (0 < n2)) 4 : Nat) : Int) ∧ w1 = wx)
  case first =>
    go_wp2_with fail
    all_goals (go_meet; exact ⟨congrArg (Value.int .u8) (by first | exact aq_1 _ _ _ _ _ _ _ (by assumption) | exact aq_0 _ _ _ _ _ _ _ (by assumption) | exact am_k3 _ _ _ _ _ _ _ (by assumption) | exact an_k3 _ _ _ _ _ _ _ (by assumption) | exact ao_k3 _ _ _ _ _ _ _ (by assumption) | exact ap_k3 _ _ _ _ _ _ _ (by assumption)), rfl⟩)
  obtain ⟨rfl, rfl⟩ := hcut
  go_upto_if 23 with fail
  go_cut [3] (fun f wx => f = .int .u8 ((flK (decide (0 < n1)) sk pd rs sl td (decide (0 < n2)) 5 : Nat) : Int) ∧ w1 = wx)
  case first =>
    go_wp2_with fail
    all_goals (go_meet; exact ⟨congrArg (Value.int .u8) (by first | exact aq_1 _ _ _ _ _ _ _ (by assumption) | exact aq_0 _ _ _ _ _ _ _ (by assumption) | exact am_k4 _ _ _ _ _ _ _ (by assumption) | exact an_k4 _ _ _ _ _ _ _ (by assumption) | exact ao_k4 _ _ _ _ _ _ _ (by assumption) | exact ap_k4 _ _ _ _ _ _ _ (by assumption)), rfl⟩)
  obtain ⟨rfl, rfl⟩ := hcut
  go_upto_if 27 with fail
  go_cut [3] (fun f wx => f = .int .u8 ((flK (decide (0 < n1)) sk pd rs sl td (decide (0 < n2)) 6 : Nat) : Int) ∧ w1 = wx)
  case first =>
    go_wp2_with fail
    all_goals (go_meet; exact ⟨congrArg (Value.int .u8) (by first | exact aq_1 _ _ _ _ _ _ _ (by assumption) | exact aq_0 _ _ _ _ _ _ _ (by assumption) | exact am_k5 _ _ _ _ _ _ _ (by assumption) | exact an_k5 _ _ _ _ _ _ _ (by assumption) | exact ao_k5 _ _ _ _ _ _ _ (by assumption) | exact ap_k5 _ _ _ _ _ _ _ (by assumption)), rfl⟩)
  obtain ⟨rfl, rfl⟩ := hcut
  go_upto_if 33 with fail
  go_cut [3] (fun f wx => f = .int .u8 ((flK (decide (0 < n1)) sk pd rs sl td (decide (0 < n2)) 7 : Nat) : Int) ∧ w1 = wx)
  case first =>
    rcases Bool.eq_false_or_eq_true (decide (0 < n2)) with hb | hb
    · have HB := Lib.hid hb
      have hb1 : 0 < n2 := by simpa using hb
      clear hb
      go_wp2_with fail
      go_meet
      exact ⟨congrArg (Value.int .u8) (by first | exact aq_1 _ _ _ _ _ _ _ HB.out | exact aq_0 _ _ _ _ _ _ _ HB.out | exact am_k6 _ _ _ _ _ _ _ HB.out | exact an_k6 _ _ _ _ _ _ _ HB.out | exact ao_k6 _ _ _ _ _ _ _ HB.out | exact ap_k6 _ _ _ _ _ _ _ HB.out), rfl⟩
    · have HB := Lib.hid hb
      have hb1 : ¬ 0 < n2 := by simpa using hb
      clear hb
      go_wp2_with fail
      go_meet
      exact ⟨congrArg (Value.int .u8) (by first | exact aq_1 _ _ _ _ _ _ _ HB.out | exact aq_0 _ _ _ _ _ _ _ HB.out | exact am_k6 _ _ _ _ _ _ _ HB.out | exact an_k6 _ _ _ _ _ _ _ HB.out | exact ao_k6 _ _ _ _ _ _ _ HB.out | exact ap_k6 _ _ _ _ _ _ _ HB.out), rfl⟩
  obtain ⟨rfl, rfl⟩ := hcut
  rw [flK_7]
  go_wp2_with fail
  go_ret
  exact ⟨rfl, HB1.out⟩
end Go.Proofs.Sb
