/- A walk over prims.Inet. Conditions: none but the length's bound. -/
import Derived.Test.YtfeeeighafflnaaGreatPrimsb
import Derived.Test.YtfeeeighafflnaaGreatArr
set_option linter.unusedVariables false
set_option linter.unusedSimpArgs false
namespace Go.Proofs.Sb
open Go.RowKit _root_.Sb

theorem sl_oneN {W : World} {g x : Nat} (hx : x < 256) (h : W.cell? ⟨g, 0, none⟩ = some (.int .u8 (x : Int))) : Sl (fun _ => True) W (some ⟨g, 0, none⟩) 1 1 [UInt8.ofNat x] := by
  refine ⟨rfl, Nat.le_refl _, by decide, fun _ => ⟨g, 0, rfl, trivial, World.block_lt_of_cell? W ⟨g, 0, none⟩ h, fun j u hu => ?_⟩⟩
  have hj : j = 0 := by have := (List.getElem?_eq_some_iff.1 hu).1; simp [bv] at this; omega
  subst hj
  simp [bv] at hu
  subst hu
  have e : ((x : Int) % 256) = x := by omega
  rw [e]
  exact h
theorem sl_one {W : World} {g : Nat} {b : UInt8} (h : W.cell? ⟨g, 0, none⟩ = some (.int .u8 (b.toNat : Int))) : Sl (fun _ => True) W (some ⟨g, 0, none⟩) 1 1 [b] := by
  refine ⟨rfl, Nat.le_refl _, by decide, fun _ => ⟨g, 0, rfl, trivial, World.block_lt_of_cell? W ⟨g, 0, none⟩ h, fun j u hu => ?_⟩⟩
  have hj : j = 0 := by have := (List.getElem?_eq_some_iff.1 hu).1; simp [bv] at this; omega
  subst hj
  simp [bv] at hu
  subst hu
  exact h

theorem concat3_any {W : World} {A1 A2 A3 : Option Addr} {n1 n2 n3 c1 c2 c3 g : Nat} {b1 b2 b3 : B} {e : TypeId} (h1 : Sl (fun _ => True) W A1 n1 c1 b1) (h2 : Sl (fun _ => True) W A2 n2 c2 b2) (h3 : Sl (fun _ => True) W A3 n3 c3 b3) (hg : g = W.heap.size)
    (h0 : 0 < b1.length + b2.length + b3.length) (hb : b1.length + b2.length + b3.length ≤ 140737488355328) :
    Calls Tryz.prog 102 #[.slice (some ⟨g, 0, none⟩) 3 3] (W.alloc (.cells #[.slice A1 n1 c1, .slice A2 n2 c2, .slice A3 n3 c3] e)) fun r w' => ∃ A' n' c', r = .returned (.slice A' n' c') ∧ Own W.heap.size w' A' n' c' (b1 ++ b2 ++ b3) ∧ Below (W.alloc (.cells #[.slice A1 n1 c1, .slice A2 n2 c2, .slice A3 n3 c3] e)).heap.size (W.alloc (.cells #[.slice A1 n1 c1, .slice A2 n2 c2, .slice A3 n3 c3] e)) w' := by
  have hal : ∀ {A : Option Addr} {n c : Nat} {b : B}, Sl (fun _ => True) W A n c b → Sl (fun _ => True) (W.alloc (.cells #[.slice A1 n1 c1, .slice A2 n2 c2, .slice A3 n3 c3] e)) A n c b := fun h => h.after (by repeat (first | exact Below.refl _ _ | assumption | refine Below.drew ?_ | refine below_drewN ?_ _ | refine Below.alloc ?_ (by simp) _ | refine Below.setCell ?_ (by simp) _))
  have ha : Arr 1 (bsP (fun _ => True) (W.alloc (.cells #[.slice A1 n1 c1, .slice A2 n2 c2, .slice A3 n3 c3] e))) (fun b => b = W.heap.size) (W.alloc (.cells #[.slice A1 n1 c1, .slice A2 n2 c2, .slice A3 n3 c3] e)) (some ⟨g, 0, none⟩) 3 3 [b1, b2, b3] :=
    arr_new W _ [b1, b2, b3] 3 (show Els 1 (bsP (fun _ => True) (W.alloc (.cells #[.slice A1 n1 c1, .slice A2 n2 c2, .slice A3 n3 c3] e))) [b1, b2, b3] [.slice A1 n1 c1, .slice A2 n2 c2, .slice A3 n3 c3] from ⟨[_], [_, _], rfl, rfl, ⟨_, _, _, rfl, hal h1⟩, [_], [_], rfl, rfl, ⟨_, _, _, rfl, hal h2⟩, [_], [], rfl, rfl, ⟨_, _, _, rfl, hal h3⟩, rfl⟩) rfl (by decide) hg
  have hsum : ([b1, b2, b3].map List.length).sum = b1.length + b2.length + b3.length := by simp; omega
  refine (concat_any ha (by rw [hsum]; exact h0) (by rw [hsum]; exact hb)).mono fun r w' ⟨A', n', c', e1, e2, e3⟩ => ⟨A', n', c', e1, ?_, ?_⟩
  · have : [b1, b2, b3].flatten = b1 ++ b2 ++ b3 := by simp
    rw [this] at e2
    exact e2.mono (by simp)
  · exact e3

set_option maxHeartbeats 2000000 in
set_option maxRecDepth 100000 in
theorem inet_any {S : Nat → Prop} {A : Option Addr} {n c : Nat} {a : Adr} {w : World} (hs : Sl S w A n c a.addr) (hp : a.port < 4294967296) (r : Wr) (hr : inet a = r) :
    Calls Tryz.prog 93 #[.agg #[.slice A n c, .int .u32 (a.port : Int)]] w fun e w' => ∃ A1 n1 c1, e = .returned (.tuple #[.slice A1 n1 c1, .int .i64 (werr r)]) ∧ Own w.heap.size w' A1 n1 c1 (wval r) ∧ Below w.heap.size w w' := by
  obtain ⟨ad, port⟩ := a
  simp only at hs hp
  have hlen := Lib.hid hs.len
  have hcap := hs.cap
  have hcm := hs.capMax
  subst hr
  unfold inet
  by_cases h4 : ad.length = 4 ∨ ad.length = 16
  · simp only [h4, if_true]
    have hn4 : n = 4 ∨ n = 16 := by have := hlen.out; omega
    have H4 : Hid ((n : Int) = 4 ∨ (n : Int) = 16) := by show _ ∨ _; omega
    have hnu : n < 256 := by omega
    clear h4 hn4
    go_enter Tryz.func93, Tryz.ntmps93
    go_wp2_with fail
    refine (length_yes _ _ H4.out).mono ?_
    rintro e w1' ⟨rfl, rfl⟩
    go_wp2_with fail
    have hw8 : IntKind.u8.wrap (n : Int) = n := by rw [IntKind.wrap_u8]; omega
    have hwrap : IntKind.u64.wrap (port : Int) = port := by rw [IntKind.wrap_u64]; omega
    have hE0 := Aft.each (W := (w.alloc (.cells #[.slice A n c, .int .u32 (port : Int)] 34)).drew) (b := w.heap.size) (o := 0) (v := .slice A n c) (by go_simp)
    have hE1 := Aft.each (W := (w.alloc (.cells #[.slice A n c, .int .u32 (port : Int)] 34)).drew) (b := w.heap.size) (o := 1) (v := .int .u32 (port : Int)) (by go_simp)
    refine reg_start (by kernel_rfl) ?_
    (refine reg_take 0 (v := ?_) (by rfl) (by kernel_rfl) (by kernel_rfl) (by kernel_rfl) (by exact fun _ _ _ h => h) (by rfl) ?_ ?_; rotate_left; focus (intro w hSw; go_simp; try with_reducible rfl))
    simp only [Act.put, List.setIfInBounds_toArray, List.set_cons_zero, List.set_cons_succ]
    (refine reg_take 1 (v := ?_) (by rfl) (by kernel_rfl) (by kernel_rfl) (by kernel_rfl) (by exact fun _ _ _ h => h) (by rfl) ?_ ?_; rotate_left; focus (intro w hSw; go_simp; try with_reducible rfl))
    simp only [Act.put, List.setIfInBounds_toArray, List.set_cons_zero, List.set_cons_succ]
    (refine reg_take 2 (v := ?_) (by rfl) (by kernel_rfl) (by kernel_rfl) (by kernel_rfl) (by exact fun _ _ _ h => h) (by rfl) ?_ ?_; rotate_left; focus (intro w hSw; go_simp; try with_reducible rfl))
    simp only [Act.put, List.setIfInBounds_toArray, List.set_cons_zero, List.set_cons_succ]
    (refine reg_take 3 (v := ?_) (by rfl) (by kernel_rfl) (by kernel_rfl) (by kernel_rfl) (by exact fun _ _ _ h => h) (by rfl) ?_ ?_; rotate_left; focus (intro w hSw; go_simp; try with_reducible rfl))
    simp only [Act.put, List.setIfInBounds_toArray, List.set_cons_zero, List.set_cons_succ]
    (refine reg_take 5 (v := ?_) (by rfl) (by kernel_rfl) (by kernel_rfl) (by kernel_rfl) (by exact fun _ _ _ h => h) (by rfl) ?_ ?_; rotate_left; focus (intro w hSw; go_simp; try with_reducible rfl))
    simp only [Act.put, List.setIfInBounds_toArray, List.set_cons_zero, List.set_cons_succ]
    (refine reg_take 6 (v := ?_) (by rfl) (by kernel_rfl) (by kernel_rfl) (by kernel_rfl) (by exact fun _ _ _ h => h) (by rfl) ?_ ?_; rotate_left; focus (intro w hSw; go_simp; try with_reducible rfl))
    simp only [Act.put, List.setIfInBounds_toArray, List.set_cons_zero, List.set_cons_succ]
    (refine reg_take 7 (v := ?_) (by rfl) (by kernel_rfl) (by kernel_rfl) (by kernel_rfl) (by exact fun _ _ _ h => h) (by rfl) ?_ ?_; rotate_left; focus (intro w hSw; go_simp; try with_reducible rfl))
    simp only [Act.put, List.setIfInBounds_toArray, List.set_cons_zero, List.set_cons_succ]
    (refine reg_take 8 (v := ?_) (by rfl) (by kernel_rfl) (by kernel_rfl) (by kernel_rfl) (by exact fun _ _ _ h => h) (by rfl) ?_ ?_; rotate_left; focus (intro w hSw; go_simp; try with_reducible rfl))
    simp only [Act.put, List.setIfInBounds_toArray, List.set_cons_zero, List.set_cons_succ]
    (refine reg_take 9 (v := ?_) (by rfl) (by kernel_rfl) (by kernel_rfl) (by kernel_rfl) (by exact fun _ _ _ h => h) (by rfl) ?_ ?_; rotate_left; focus (intro w hSw; go_simp; try with_reducible rfl))
    simp only [Act.put, List.setIfInBounds_toArray, List.set_cons_zero, List.set_cons_succ]
    refine reg_two 4 10 (by kernel_rfl) (by rfl) (by rfl) (fun K hK => ?_) (fun K hK => ?_)
    focus
      go_simp
      refine hK.out _ _ ((by unfold Aft; exact (by repeat (first | exact Below.refl _ _ | exact below_undrew (Below.refl _ _) | assumption | refine Below.drew ?_ | refine below_drewN ?_ _ | refine Below.alloc ?_ (by simp) _ | refine Below.setCell ?_ (by simp) _)))) ?_
      clear hK K
      try simp only [Act.put, List.setIfInBounds_toArray, List.set_cons_zero, List.set_cons_succ]
      refine reg_call 10 (by kernel_rfl) (by rfl) (fun K hK => ?_)
      go_simp
      go_at_call 70; refine (put_any _ 4 _ (by omega) (by omega) (by omega) (by omega)).mono ?_; rintro e w1 ⟨A1, m1, c1, rfl, ho1, hb1⟩; have hbw : Below w.heap.size w w1 := Below.trans (by repeat (first | exact Below.refl _ _ | assumption | refine Below.drew ?_ | refine below_drewN ?_ _ | refine Below.alloc ?_ (by simp) _ | refine Below.setCell ?_ (by simp) _)) (hb1.mono (by first | (simp; done) | (simp; omega))); obtain ⟨hc1, hf1⟩ := bcell hb1; have hzw := hbw.size
      refine hK.out _ _ (hb1) ?_
      clear hK K
      try simp only [Act.put, List.setIfInBounds_toArray, List.set_cons_zero, List.set_cons_succ]
      refine reg_call 11 (by kernel_rfl) (by rfl) (fun K hK => ?_)
      go_simp
      refine hK.out _ _ ((by unfold Aft; exact (by repeat (first | exact Below.refl _ _ | exact below_undrew (Below.refl _ _) | assumption | refine Below.drew ?_ | refine below_drewN ?_ _ | refine Below.alloc ?_ (by simp) _ | refine Below.setCell ?_ (by simp) _)))) ?_
      clear hK K
      try simp only [Act.put, List.setIfInBounds_toArray, List.set_cons_zero, List.set_cons_succ]
      refine reg_call 12 (by kernel_rfl) (by rfl) (fun K hK => ?_)
      go_simp
      go_at_call 102; refine (concat3_any (b1 := [UInt8.ofNat n]) (b2 := ad) (b3 := enc 4 port) (by exact sl_oneN hnu (by go_simp)) (by exact (hs.mono fun _ _ _ => trivial).after (by repeat (first | exact Below.refl _ _ | assumption | refine Below.drew ?_ | refine below_drewN ?_ _ | refine Below.alloc ?_ (by first | (simp; done) | omega | (simp; omega)) _ | refine Below.setCell ?_ (by first | (simp; done) | omega | (simp; omega)) _))) (by exact (ho1.sl.mono fun _ _ _ => trivial).after (by repeat (first | exact Below.refl _ _ | assumption | refine Below.drew ?_ | refine below_drewN ?_ _ | refine Below.alloc ?_ (by first | (simp; done) | omega | (simp; omega)) _ | refine Below.setCell ?_ (by first | (simp; done) | omega | (simp; omega)) _))) (by first | rfl | (simp; done)) (by simp only [List.length_cons]; omega) (by have := hlen.out; simp [enc_length]; omega)).mono ?_; rintro e w2 ⟨A2, n2, c2, rfl, ho2, hb2⟩; have hbw2 : Below w.heap.size w w2 := Below.trans (by repeat (first | exact Below.refl _ _ | assumption | refine Below.drew ?_ | refine below_drewN ?_ _ | refine Below.alloc ?_ (by first | (simp; done) | omega | (simp; omega)) _ | refine Below.setCell ?_ (by first | (simp; done) | omega | (simp; omega)) _)) (hb2.mono (by simp; omega)); have ho2' : Own w.heap.size w2 A2 n2 c2 (UInt8.ofNat ad.length :: ad ++ enc 4 port) := (by have h := ho2.mono (base' := w.heap.size) (by first | omega | (simp; omega)); rw [hlen.out] at h; simpa using h)
      refine hK.out _ _ (hb2) ?_
      clear hK K
      try simp only [Act.put, List.setIfInBounds_toArray, List.set_cons_zero, List.set_cons_succ]
      (refine reg_take 13 (v := ?_) (by rfl) (by kernel_rfl) (by kernel_rfl) (by kernel_rfl) (by exact fun _ _ _ h => h) (by rfl) ?_ ?_; rotate_left; focus (intro w hSw; go_simp; try with_reducible rfl))
      simp only [Act.put, List.setIfInBounds_toArray, List.set_cons_zero, List.set_cons_succ]
      (refine reg_take 14 (v := ?_) (by rfl) (by kernel_rfl) (by kernel_rfl) (by kernel_rfl) (by exact fun _ _ _ h => h) (by rfl) ?_ ?_; rotate_left; focus (intro w hSw; go_simp; try with_reducible rfl))
      simp only [Act.put, List.setIfInBounds_toArray, List.set_cons_zero, List.set_cons_succ]
      refine wpAnyH_done (by kernel_rfl) ?_ _
    rotate_left 1
    focus
      go_simp
      go_at_call 70; refine (put_any _ 4 _ (by omega) (by omega) (by omega) (by omega)).mono ?_; rintro e w1 ⟨A1, m1, c1, rfl, ho1, hb1⟩; have hbw : Below w.heap.size w w1 := Below.trans (by repeat (first | exact Below.refl _ _ | assumption | refine Below.drew ?_ | refine below_drewN ?_ _ | refine Below.alloc ?_ (by simp) _ | refine Below.setCell ?_ (by simp) _)) (hb1.mono (by first | (simp; done) | (simp; omega))); obtain ⟨hc1, hf1⟩ := bcell hb1; have hzw := hbw.size
      refine hK.out _ _ (hb1) ?_
      clear hK K
      try simp only [Act.put, List.setIfInBounds_toArray, List.set_cons_zero, List.set_cons_succ]
      refine reg_call 4 (by kernel_rfl) (by rfl) (fun K hK => ?_)
      go_simp
      refine hK.out _ _ ((by unfold Aft; exact (by repeat (first | exact Below.refl _ _ | exact below_undrew (Below.refl _ _) | assumption | refine Below.drew ?_ | refine below_drewN ?_ _ | refine Below.alloc ?_ (by simp) _ | refine Below.setCell ?_ (by simp) _)))) ?_
      clear hK K
      try simp only [Act.put, List.setIfInBounds_toArray, List.set_cons_zero, List.set_cons_succ]
      refine reg_call 11 (by kernel_rfl) (by rfl) (fun K hK => ?_)
      go_simp
      refine hK.out _ _ ((by unfold Aft; exact (by repeat (first | exact Below.refl _ _ | exact below_undrew (Below.refl _ _) | assumption | refine Below.drew ?_ | refine below_drewN ?_ _ | refine Below.alloc ?_ (by simp) _ | refine Below.setCell ?_ (by simp) _)))) ?_
      clear hK K
      try simp only [Act.put, List.setIfInBounds_toArray, List.set_cons_zero, List.set_cons_succ]
      refine reg_call 12 (by kernel_rfl) (by rfl) (fun K hK => ?_)
      go_simp
      go_at_call 102; refine (concat3_any (b1 := [UInt8.ofNat n]) (b2 := ad) (b3 := enc 4 port) (by exact sl_oneN hnu (by go_simp)) (by exact (hs.mono fun _ _ _ => trivial).after (by repeat (first | exact Below.refl _ _ | assumption | refine Below.drew ?_ | refine below_drewN ?_ _ | refine Below.alloc ?_ (by first | (simp; done) | omega | (simp; omega)) _ | refine Below.setCell ?_ (by first | (simp; done) | omega | (simp; omega)) _))) (by exact (ho1.sl.mono fun _ _ _ => trivial).after (by repeat (first | exact Below.refl _ _ | assumption | refine Below.drew ?_ | refine below_drewN ?_ _ | refine Below.alloc ?_ (by first | (simp; done) | omega | (simp; omega)) _ | refine Below.setCell ?_ (by first | (simp; done) | omega | (simp; omega)) _))) (by first | rfl | (simp; done)) (by simp only [List.length_cons]; omega) (by have := hlen.out; simp [enc_length]; omega)).mono ?_; rintro e w2 ⟨A2, n2, c2, rfl, ho2, hb2⟩; have hbw2 : Below w.heap.size w w2 := Below.trans (by repeat (first | exact Below.refl _ _ | assumption | refine Below.drew ?_ | refine below_drewN ?_ _ | refine Below.alloc ?_ (by first | (simp; done) | omega | (simp; omega)) _ | refine Below.setCell ?_ (by first | (simp; done) | omega | (simp; omega)) _)) (hb2.mono (by simp; omega)); have ho2' : Own w.heap.size w2 A2 n2 c2 (UInt8.ofNat ad.length :: ad ++ enc 4 port) := (by have h := ho2.mono (base' := w.heap.size) (by first | omega | (simp; omega)); rw [hlen.out] at h; simpa using h)
      refine hK.out _ _ (hb2) ?_
      clear hK K
      try simp only [Act.put, List.setIfInBounds_toArray, List.set_cons_zero, List.set_cons_succ]
      (refine reg_take 13 (v := ?_) (by rfl) (by kernel_rfl) (by kernel_rfl) (by kernel_rfl) (by exact fun _ _ _ h => h) (by rfl) ?_ ?_; rotate_left; focus (intro w hSw; go_simp; try with_reducible rfl))
      simp only [Act.put, List.setIfInBounds_toArray, List.set_cons_zero, List.set_cons_succ]
      (refine reg_take 14 (v := ?_) (by rfl) (by kernel_rfl) (by kernel_rfl) (by kernel_rfl) (by exact fun _ _ _ h => h) (by rfl) ?_ ?_; rotate_left; focus (intro w hSw; go_simp; try with_reducible rfl))
      simp only [Act.put, List.setIfInBounds_toArray, List.set_cons_zero, List.set_cons_succ]
      refine wpAnyH_done (by kernel_rfl) ?_ _
    all_goals
      go_wp2_with fail
      go_ret2
      exact ⟨_, _, _, rfl, ho2', hbw2⟩
  · simp only [h4, if_false]
    have H4 : Hid (¬ ((n : Int) = 4 ∨ (n : Int) = 16)) := by show ¬ _; have := hlen.out; omega
    clear h4
    go_enter Tryz.func93, Tryz.ntmps93
    go_wp2_with fail
    refine (length_no _ _ H4.out).mono ?_
    rintro e w1' ⟨rfl, rfl⟩
    go_wp2_with fail
    go_ret2
    exact ⟨_, _, _, rfl, Own.nil, (by repeat (first | exact Below.refl _ _ | assumption | refine Below.drew ?_ | refine below_drewN ?_ _ | refine Below.alloc ?_ (by simp) _ | refine Below.setCell ?_ (by simp) _))⟩
end Go.Proofs.Sb
