/- The walk over signalboxref04.Same at two types that read the same: true. No conditions. -/
import Derived.Test.YtenhgcgdhaegaaaDoorOpth
import Derived.Test.YtenhgcgdhaegaaaDoorRole
set_option linter.unusedVariables false
set_option linter.unusedSimpArgs false
namespace Go.Proofs.Sb
open Go.RowKit _root_.Sb

theorem dr {w : World} {b o : Nat} {v : Value} (h : w.cell? ⟨b, o, none⟩ = some v) : w.drew.cell? ⟨b, o, none⟩ = some v := by simpa using h
set_option maxHeartbeats 8000000 in
set_option maxRecDepth 100000 in
theorem same4_any : ∀ (d : Nat) {S S' : Nat → Prop} {M M' : Nat} {A1 : Option Addr} {n1 c1 : Nat} {A2 : Option Addr} {n2 c2 : Nat} {B1 : Option Addr} {m1 d1 : Nat} {B2 : Option Addr} {m2 d2 : Nat} {o : Opt} {w : World}, OptR S w M d A1 n1 c1 A2 n2 c2 o → OptR S' w M' d B1 m1 d1 B2 m2 d2 o →
    Calls Tryd.prog 20 #[optV o A1 n1 c1 A2 n2 c2, optV o B1 m1 d1 B2 m2 d2] w fun e w' => e = .returned (.bool true) ∧ Below w.heap.size w w' := by
  intro d
  induction d using Nat.strongRecOn with
  | ind d ih =>
  intro S S' M M' A1 n1 c1 A2 n2 c2 B1 m1 d1 B2 m2 d2 o w ha hb
  obtain rfl : m1 = n1 := by have h1 := ha.names.len; have h2 := hb.names.len; omega
  obtain rfl : m2 = n2 := by have h1 := ha.kids.len; have h2 := hb.kids.len; omega
  have hcap1 := ha.names.cap
  have hcm1 := ha.names.capMax
  have hcap2 := ha.kids.cap
  have hcm2 := ha.kids.capMax
  have kcap1 := hb.names.cap
  have kcm1 := hb.names.capMax
  have kcap2 := hb.kids.cap
  have kcm2 := hb.kids.capMax
  have HL1 := Lib.hid ha.names.len
  have HL2 := Lib.hid ha.kids.len
  have HA := Lib.hid ha.lt; clear ha
  have HB := Lib.hid hb.lt; clear hb
  have hx2 : BoxAt ((w.alloc (.cells #[.int .u16 (o.id : Int), .string (str o.space), .string (str o.name), .slice A1 m1 c1, .slice A2 m2 c2] 62)).alloc (.cells #[.int .u16 (o.id : Int), .string (str o.space), .string (str o.name), .slice B1 m1 d1, .slice B2 m2 d2] 62)) (w.heap.size + 1) (.int .u16 (o.id : Int)) (.string (str o.space)) (.string (str o.name)) (.slice B1 m1 d1) (.slice B2 m2 d2) := by
    have h := box_new (w.alloc (.cells #[.int .u16 (o.id : Int), .string (str o.space), .string (str o.name), .slice A1 m1 c1, .slice A2 m2 c2] 62)) 62 (.int .u16 (o.id : Int)) (.string (str o.space)) (.string (str o.name)) (.slice B1 m1 d1) (.slice B2 m2 d2)
    rw [show (w.alloc (.cells #[.int .u16 (o.id : Int), .string (str o.space), .string (str o.name), .slice A1 m1 c1, .slice A2 m2 c2] 62)).heap.size = w.heap.size + 1 by simp] at h
    exact h
  have HX2 := Lib.hid hx2; clear hx2
  go_enter Tryd.func20, Tryd.ntmps20
  go_wp2_with fail
  go_loopw [5] (fun i wr => ∃ k : Nat, k ≤ m1 ∧ i = .int .i64 (k : Nat) ∧ BoxAt wr w.heap.size (.int .u16 (o.id : Int)) (.string (str o.space)) (.string (str o.name)) (.slice A1 m1 c1) (.slice A2 m2 c2) ∧ BoxAt wr (w.heap.size + 1) (.int .u16 (o.id : Int)) (.string (str o.space)) (.string (str o.name)) (.slice B1 m1 d1) (.slice B2 m2 d2) ∧ Below w.heap.size w wr ∧ w.heap.size + 1 < wr.heap.size) (fun i _ => m1 - (intOf i).toNat)
  case atStart => exact ⟨0, by omega, rfl, (box_new w _ _ _ _ _ _).after (by repeat (first | exact Below.refl _ _ | assumption | refine Below.drew ?_ | refine below_drewN ?_ _ | refine Below.alloc ?_ (by first | (simp; done) | omega | (simp; omega)) _ | refine Below.setCell ?_ (by first | (simp; done) | omega | (simp; omega)) _)), HX2.out, (by repeat (first | exact Below.refl _ _ | assumption | refine Below.drew ?_ | refine below_drewN ?_ _ | refine Below.alloc ?_ (by first | (simp; done) | omega | (simp; omega)) _ | refine Below.setCell ?_ (by first | (simp; done) | omega | (simp; omega)) _)), by simp⟩
  case round =>
    obtain ⟨k, hk, rfl, hxa, hxb, hbr, hzr⟩ := hrel
    have hy : w.heap.size < wr.heap.size := by omega
    have XA := Lib.hid hxa
    have XB := Lib.hid hxb
    have p3 := hxa.c3
    have q3 := hxb.c3
    have p4 := hxa.c4
    have q4 := hxb.c4
    clear hxa hxb
    by_cases hlt : k < m1
    · obtain ⟨x, hx⟩ : ∃ x, o.names[k]? = some x := ⟨_, List.getElem?_eq_getElem (by have := HL1.out; omega)⟩
      have HXX := Lib.hid hx; clear hx
      obtain ⟨b1, o1, rfl, _, hbs1, HC1⟩ := (HA.out.names.after hbr).at (by decide) (by omega)
      obtain ⟨b2, o2, rfl, _, hbs2, HC2⟩ := (HB.out.names.after hbr).at (by decide) (by omega)
      obtain ⟨v1, hv1, ⟨rfl, _⟩, hv2⟩ := HC1 k x HXX.out
      obtain ⟨v3, hv3, ⟨rfl, _⟩, hv4⟩ := HC2 k x HXX.out
      have hc1 := hv2 0 _ rfl
      have hc2 := hv4 0 _ rfl
      simp only [Nat.mul_one, Nat.add_zero] at hc1 hc2
      clear hv1 hv2 hv3 hv4 HC1 HC2
      go_wp2_with fail
      go_quiet (fail)
      go_wp2_with fail
      refine ⟨⟨k + 1, by omega, by go_num, XA.out.after (by repeat (first | exact Below.refl _ _ | assumption | refine Below.drew ?_ | refine below_drewN ?_ _ | refine Below.alloc ?_ (by first | (simp; done) | omega | (simp; omega)) _ | refine Below.setCell ?_ (by first | (simp; done) | omega | (simp; omega)) _)), XB.out.after (by repeat (first | exact Below.refl _ _ | assumption | refine Below.drew ?_ | refine below_drewN ?_ _ | refine Below.alloc ?_ (by first | (simp; done) | omega | (simp; omega)) _ | refine Below.setCell ?_ (by first | (simp; done) | omega | (simp; omega)) _)), (by repeat (first | exact Below.refl _ _ | assumption | refine Below.drew ?_ | refine below_drewN ?_ _ | refine Below.alloc ?_ (by first | (simp; done) | omega | (simp; omega)) _ | refine Below.setCell ?_ (by first | (simp; done) | omega | (simp; omega)) _)), by first | omega | (simp; omega)⟩, by simp [intOf]; omega⟩
    · obtain rfl : m1 = k := by omega
      go_wp2_with fail
      go_loopw [6, 7] (fun i _ wq => ∃ k : Nat, k ≤ m2 ∧ i = .int .i64 (k : Nat) ∧ BoxAt wq w.heap.size (.int .u16 (o.id : Int)) (.string (str o.space)) (.string (str o.name)) (.slice A1 m1 c1) (.slice A2 m2 c2) ∧ BoxAt wq (w.heap.size + 1) (.int .u16 (o.id : Int)) (.string (str o.space)) (.string (str o.name)) (.slice B1 m1 d1) (.slice B2 m2 d2) ∧ Below w.heap.size w wq ∧ w.heap.size + 1 < wq.heap.size) (fun i _ _ => m2 - (intOf i).toNat)
      case atStart => exact ⟨0, by omega, rfl, XA.out, XB.out, hbr, hzr⟩
      case round =>
        obtain ⟨k, hk, rfl, hxa, hxb, hbr, hzr⟩ := hrel
        have hy : w.heap.size < wr.heap.size := by omega
        have XA := Lib.hid hxa
        have XB := Lib.hid hxb
        have p4 := hxa.c4
        have q4 := hxb.c4
        clear hxa hxb
        by_cases hlt : k < m2
        · obtain ⟨x, hx⟩ : ∃ x, o.kids[k]? = some x := ⟨_, List.getElem?_eq_getElem (by have := HL2.out; omega)⟩
          have HXX := Lib.hid hx; clear hx
          obtain ⟨b1, o1, rfl, _, hbs1, HC1⟩ := (HA.out.after hbr).kids.at (by decide) (by omega)
          obtain ⟨b2, o2, rfl, _, hbs2, HC2⟩ := (HB.out.after hbr).kids.at (by decide) (by omega)
          obtain ⟨v1, hv1, hp1, hv2⟩ := HC1 k x HXX.out
          obtain ⟨v3, hv3, hp3, hv4⟩ := HC2 k x HXX.out
          obtain ⟨e, C1, l1, f1, C2, l2, f2, rfl, rfl, hR1⟩ := hp1.open
          obtain ⟨e', C3, l3, f3, C4, l4, f4, he, rfl, hR2⟩ := hp3.open
          obtain rfl : e' = e := by omega
          clear he
          have R1 := Lib.hid hR1; clear hR1
          have R2 := Lib.hid hR2; clear hR2
          have a0 := Aft.each (dr (hv2 0 _ rfl))
          have a1 := Aft.each (dr (hv2 1 _ rfl))
          have a2 := Aft.each (dr (hv2 2 _ rfl))
          have a3 := Aft.each (dr (hv2 3 _ rfl))
          have a4 := Aft.each (dr (hv2 4 _ rfl))
          have b0 := Aft.each (dr (hv4 0 _ rfl))
          have b3 := Aft.each (dr (hv4 1 _ rfl))
          have b4 := Aft.each (dr (hv4 2 _ rfl))
          have b5 := Aft.each (dr (hv4 3 _ rfl))
          have b6 := Aft.each (dr (hv4 4 _ rfl))
          have ep := Aft.each (dr p4)
          have eq := Aft.each (dr q4)
          simp only [Nat.add_zero] at a0 b0
          clear hv1 hv2 hv3 hv4 HC1 HC2 hp1 hp3
          go_wp2_with fail
          refine reg_start (by kernel_rfl) ?_
          (refine reg_take 0 (v := ?_) (by rfl) (by kernel_rfl) (by kernel_rfl) (by kernel_rfl) (by exact fun _ _ _ h => h) (by rfl) ?_ ?_; rotate_left; focus (intro w hSw; go_simp; try with_reducible rfl))
          simp only [Act.put, List.setIfInBounds_toArray, List.set_cons_zero, List.set_cons_succ]
          (refine reg_take 1 (v := ?_) (by rfl) (by kernel_rfl) (by kernel_rfl) (by kernel_rfl) (by exact fun _ _ _ h => h) (by rfl) ?_ ?_; rotate_left; focus (intro w hSw; go_simp; try with_reducible rfl))
          simp only [Act.put, List.setIfInBounds_toArray, List.set_cons_zero, List.set_cons_succ]
          (refine reg_take 2 (v := ?_) (by rfl) (by kernel_rfl) (by kernel_rfl) (by kernel_rfl) (by exact fun _ _ _ h => h) (by rfl) ?_ ?_; rotate_left; focus (intro w hSw; go_simp; try with_reducible rfl))
          simp only [Act.put, List.setIfInBounds_toArray, List.set_cons_zero, List.set_cons_succ]
          (refine reg_take 3 (v := ?_) (by rfl) (by kernel_rfl) (by kernel_rfl) (by kernel_rfl) (by exact fun _ _ _ h => h) (by rfl) ?_ ?_; rotate_left; focus (intro w hSw; go_simp; try with_reducible rfl))
          simp only [Act.put, List.setIfInBounds_toArray, List.set_cons_zero, List.set_cons_succ]
          (refine reg_take 4 (v := ?_) (by rfl) (by kernel_rfl) (by kernel_rfl) (by kernel_rfl) (by exact fun _ _ _ h => h) (by rfl) ?_ ?_; rotate_left; focus (intro w hSw; go_simp; try with_reducible rfl))
          simp only [Act.put, List.setIfInBounds_toArray, List.set_cons_zero, List.set_cons_succ]
          (refine reg_take 5 (v := ?_) (by rfl) (by kernel_rfl) (by kernel_rfl) (by kernel_rfl) (by exact fun _ _ _ h => h) (by rfl) ?_ ?_; rotate_left; focus (intro w hSw; go_simp; try with_reducible rfl))
          simp only [Act.put, List.setIfInBounds_toArray, List.set_cons_zero, List.set_cons_succ]
          (refine reg_take 6 (v := ?_) (by rfl) (by kernel_rfl) (by kernel_rfl) (by kernel_rfl) (by exact fun _ _ _ h => h) (by rfl) ?_ ?_; rotate_left; focus (intro w hSw; go_simp; try with_reducible rfl))
          simp only [Act.put, List.setIfInBounds_toArray, List.set_cons_zero, List.set_cons_succ]
          (refine reg_take 7 (v := ?_) (by rfl) (by kernel_rfl) (by kernel_rfl) (by kernel_rfl) (by exact fun _ _ _ h => h) (by rfl) ?_ ?_; rotate_left; focus (intro w hSw; go_simp; try with_reducible rfl))
          simp only [Act.put, List.setIfInBounds_toArray, List.set_cons_zero, List.set_cons_succ]
          (refine reg_take 8 (v := ?_) (by rfl) (by kernel_rfl) (by kernel_rfl) (by kernel_rfl) (by exact fun _ _ _ h => h) (by rfl) ?_ ?_; rotate_left; focus (intro w hSw; go_simp; try with_reducible rfl))
          simp only [Act.put, List.setIfInBounds_toArray, List.set_cons_zero, List.set_cons_succ]
          (refine reg_take 9 (v := ?_) (by rfl) (by kernel_rfl) (by kernel_rfl) (by kernel_rfl) (by exact fun _ _ _ h => h) (by rfl) ?_ ?_; rotate_left; focus (intro w hSw; go_simp; try with_reducible rfl))
          simp only [Act.put, List.setIfInBounds_toArray, List.set_cons_zero, List.set_cons_succ]
          refine reg_call 10 (by kernel_rfl) (by rfl) (fun K hK => ?_)
          go_simp
          go_at_call 20; refine (ih e' (by omega) (R1.out.after (by repeat (first | exact Below.refl _ _ | assumption | refine Below.drew ?_ | refine below_drewN ?_ _ | refine Below.alloc ?_ (by first | (simp; done) | omega | (simp; omega)) _ | refine Below.setCell ?_ (by first | (simp; done) | omega | (simp; omega)) _))) (R2.out.after (by repeat (first | exact Below.refl _ _ | assumption | refine Below.drew ?_ | refine below_drewN ?_ _ | refine Below.alloc ?_ (by first | (simp; done) | omega | (simp; omega)) _ | refine Below.setCell ?_ (by first | (simp; done) | omega | (simp; omega)) _)))).mono ?_; rintro e5 w5 ⟨rfl, hb5⟩
          refine hK.out _ _ (hb5) ?_
          clear hK K
          try simp only [Act.put, List.setIfInBounds_toArray, List.set_cons_zero, List.set_cons_succ]
          (refine reg_take 11 (v := ?_) (by rfl) (by kernel_rfl) (by kernel_rfl) (by kernel_rfl) (by exact fun _ _ _ h => h) (by rfl) ?_ ?_; rotate_left; focus (intro w hSw; go_simp; try with_reducible rfl))
          simp only [Act.put, List.setIfInBounds_toArray, List.set_cons_zero, List.set_cons_succ]
          refine wpAnyH_done (by kernel_rfl) ?_ _
          have hb5' : Below wr.heap.size wr w5 := Below.trans (by repeat (first | exact Below.refl _ _ | assumption | refine Below.drew ?_ | refine below_drewN ?_ _ | refine Below.alloc ?_ (by first | (simp; done) | omega | (simp; omega)) _ | refine Below.setCell ?_ (by first | (simp; done) | omega | (simp; omega)) _)) (hb5.mono (by simp))
          clear a0 a1 a2 a3 a4 b0 b3 b4 b5 b6 ep eq p4 q4
          go_wp2_with fail
          refine ⟨⟨k + 1, by omega, by go_num, XA.out.after hb5', XB.out.after hb5', seqB hbr hb5', by have := hb5'.size; omega⟩, by simp [intOf]; omega⟩
        · obtain rfl : m2 = k := by omega
          go_wp2_with fail
          go_ret
          exact ⟨rfl, hbr⟩
end Go.Proofs.Sb
