/- The walk over signalboxlaw08.RequestRuns: true at every input, and nothing that was there has turned. Conditions: lengths up to 2^20. (written by gen_lawrr.py) -/
import Derived.Test.YtdgmkmadlnmhbaaLawRGets
import Derived.Test.YtdgmkmadlnmhbaaSlight8
import Derived.Test.YtdgmkmadlnmhbaaArgsr
set_option linter.unusedVariables false
set_option linter.unusedSimpArgs false
namespace Sb
/-- the request that is made of a run -/
def runRq (op : Nat) (p : Par) (i : B) : Rq := ⟨op, [], [120], i, p, [], Val.none, 0, [⟨false, [121], [], p.values⟩, ⟨true, [], i, []⟩]⟩
def opOf (k : Nat) : Nat := if k = 0 then 7 else if k = 1 then 10 else 13
theorem opOf_lt (k : Nat) : opOf k < 256 := by unfold opOf; split <;> (try split) <;> omega
theorem runRq_B {op : Nat} {p : Par} {i : B} (h : ParB 1048576 p) (hi : i.length ≤ 1048576) : RqB 1048576 (runRq op p i) := by
  refine ⟨(by show ([120] : B).length ≤ 1048576; decide), hi, h, Nat.zero_le _, fun x hx => ?_, Nat.zero_le _, Nat.zero_le _, ?_⟩
  · have hx : x ∈ [(⟨false, [121], [], p.values⟩ : Stm), ⟨true, [], i, []⟩] := hx
    simp only [List.mem_cons, List.not_mem_nil, or_false] at hx
    rcases hx with rfl | rfl
    · refine ⟨?_, Nat.zero_le _, h.values, h.nvals⟩
      show ([121] : B).length ≤ 1048576
      decide
    · exact ⟨Nat.zero_le _, hi, (fun v hv => by have hv : v ∈ ([] : List Val) := hv; cases hv), Nat.zero_le _⟩
  · show 2 ≤ 1048576
    decide
theorem runRq_norm (k : Nat) (p : Par) (i : B) : (runRq (opOf k) p i).norm.run = p.norm := by
  have h : opOf k = 7 ∨ opOf k = 10 ∨ opOf k = 13 := by unfold opOf; split <;> (try split) <;> omega
  rcases h with h | h | h <;> rw [h] <;> rfl
theorem rqL_of {q : Rq} (h : RqB 1048576 q) : RqL q := ⟨h.nopts, h.nevs, h.nall, h.run.nvals, h.run.nnames, fun x hx => (h.all x hx).2.2.2⟩
end Sb
namespace Go.Proofs.Sb
open Go.RowKit _root_.Sb
theorem regf_three {P : Program} {md : Region.Mode} {l : List Oper} {Q : Exit → Act → World → Prop} {T : Nat → Prop} {W : World} {fuel : Nat} {listed : Array Bool} {a : Act} (i j k : Nat) {o p q : Oper}
    (hr : Region.ready md l.toArray listed = [i, j, k]) (ho : nth l i = some o) (hp : nth l j = some p) (hq : nth l k = some q)
    (h1 : ∀ K : Act → World → Prop, Shut (∀ a w', Fr T W w' → wpAnyH P md l.toArray Q (Fr T w') fuel (listed.setIfInBounds i true) a w' → K a w') → if Region.wanted o (yielded l.toArray a.tmps) = true then Oper.wp P o a W K Q else K (a.put o.dst undef) W)
    (h2 : ∀ K : Act → World → Prop, Shut (∀ a w', Fr T W w' → wpAnyH P md l.toArray Q (Fr T w') fuel (listed.setIfInBounds j true) a w' → K a w') → if Region.wanted p (yielded l.toArray a.tmps) = true then Oper.wp P p a W K Q else K (a.put p.dst undef) W)
    (h3 : ∀ K : Act → World → Prop, Shut (∀ a w', Fr T W w' → wpAnyH P md l.toArray Q (Fr T w') fuel (listed.setIfInBounds k true) a w' → K a w') → if Region.wanted q (yielded l.toArray a.tmps) = true then Oper.wp P q a W K Q else K (a.put q.dst undef) W) :
    wpAnyH P md l.toArray Q (Fr T W) (fuel + 1) listed a W := by
  refine wpAnyH_all hr (by simp) fun x hx => ?_
  simp only [List.mem_cons, List.not_mem_nil, or_false] at hx
  rcases hx with rfl | rfl | rfl
  · exact wpOp_step (nth_ops ho) fun K hK => h1 K fun a w' hw' h' => hK a w' ⟨hw', wpAnyH_imp (fun w h => hw'.trans h) _ _ _ _ h'⟩
  · exact wpOp_step (nth_ops hp) fun K hK => h2 K fun a w' hw' h' => hK a w' ⟨hw', wpAnyH_imp (fun w h => hw'.trans h) _ _ _ _ h'⟩
  · exact wpOp_step (nth_ops hq) fun K hK => h3 K fun a w' hw' h' => hK a w' ⟨hw', wpAnyH_imp (fun w h => hw'.trans h) _ _ _ _ h'⟩
/-- a new block of cells: the world behind it has a name -/
theorem abs_cells {F : World → Prop} {W : World} {a : Array Value} {t : TypeId} (h : ∀ w', Below W.heap.size W w' → Bx (fun b => b = W.heap.size) w' W.heap.size a.toList → F w') : F (W.alloc (.cells a t)) :=
  h _ ((Below.refl _ _).alloc (Nat.le_refl _) _) (Bx.alloc W a t (S := fun b => b = W.heap.size) rfl rfl)
theorem abs_cellsd {F : World → Prop} {W : World} {a : Array Value} {t : TypeId} (h : ∀ w', Below W.heap.size W w' → Bx (fun b => b = W.heap.size) w' W.heap.size a.toList → F w') : F ((W.alloc (.cells a t)).drew) :=
  h _ (((Below.refl _ _).alloc (Nat.le_refl _) _).drew) (goesBx.after (Bx.alloc W a t (S := fun b => b = W.heap.size) rfl rfl) ((Below.refl _ _).drew))
/-- two elements that lie in a block -/
theorem arr_two {α : Type} {k : Nat} {P : α → List Value → Prop} {S : Nat → Prop} {w : World} {X : Nat} {v1 v2 : List Value} {x1 x2 : α} (h : Bx S w X (v1 ++ v2)) (h1 : v1.length = k) (h2 : v2.length = k) (p1 : P x1 v1) (p2 : P x2 v2) : Arr k P (fun _ => True) w (some ⟨X, 0, none⟩) 2 2 [x1, x2] :=
  ⟨rfl, Nat.le_refl _, by decide, v1 ++ v2, ⟨v1, v2, rfl, h1, p1, v2, [], by simp, h2, p2, rfl⟩, fun _ => ⟨X, 0, rfl, trivial, h.lt, fun j u hu => by rw [Nat.zero_add]; exact h.c j u hu⟩⟩
set_option maxHeartbeats 16000000 in
set_option maxRecDepth 100000 in
theorem requestRuns_any {S S2 : Nat → Prop} {w : World} {p0 : Par} {r1 r2 r3 : Slc} {A : Option Addr} {n c kd : Nat} {idb : B} (hp : ParR S w r1.a r1.n r1.c r2.a r2.n r2.c r3.a r3.n r3.c p0.values p0.names p0.state.bytes) (hpn : ParN p0) (hpb : ParB 1048576 p0) (hi : Sl S2 w A n c idb) (hib : idb.length ≤ 1048576) (hkd : kd < 256) :
    Calls Try.prog 6 #[.agg (parV p0 r1.a r1.n r1.c r2.a r2.n r2.c r3.a r3.n r3.c).toArray, .slice A n c, .int .u8 (kd : Int)] w fun e w' => e = .returned (.bool true) ∧ Below w.heap.size w w' := by
  have HP := Lib.hid (goesPar.mono (S' := fun _ => True) hp fun b _ _ => trivial); clear hp
  have hin := Lib.hid hi.len
  have hcp := hi.cap
  have hcm := hi.capMax
  have HI := Lib.hid (hi.mono (S' := fun _ => True) fun b _ _ => trivial); clear hi
  obtain ⟨k3, hke⟩ : ∃ k3, k3 = kd % 3 := ⟨_, rfl⟩
  have HRB := Lib.hid (runRq_B (op := opOf k3) hpb hib)
  have HNM := Lib.hid (runRq_norm k3 p0 idb)
  have HPN := Lib.hid hpn
  have hk3 : (k3 : Int) < 3 := by omega
  have hk0 : 0 ≤ (k3 : Int) := by omega
  have hkm : (kd : Int).tmod 3 = (k3 : Int) := by rw [Int.tmod_eq_emod_of_nonneg (by omega)]; omega
  have HKM := Lib.hid hkm; clear hkm
  have HOPK : Hid ([Value.int .u8 7, .int .u8 10, .int .u8 13][k3]? = some (.int .u8 ((opOf k3 : Nat) : Int))) := Lib.hid (by
    have h3 : k3 = 0 ∨ k3 = 1 ∨ k3 = 2 := by omega
    rcases h3 with h | h | h <;> rw [h] <;> rfl)
  have hop := opOf_lt k3
  obtain ⟨op, hoe⟩ : ∃ op, op = opOf k3 := ⟨_, rfl⟩
  rw [← hoe] at HRB HNM HOPK hop
  clear hoe hpn hpb hke
  have HIB := Lib.hid hib; clear hib
  have HTM : Hid (p0.norm.time = if p0.timed then p0.time else 0) := Lib.hid rfl
  obtain ⟨cs, values, names, sk, pd, pg, rs, sv, sl, sr, td, tm⟩ := p0
  obtain ⟨p0, hp0⟩ : ∃ p0, p0 = Par.mk cs values names sk pd pg rs sv sl sr td tm := ⟨_, rfl⟩
  have HPE := Lib.hid hp0
  rw [← hp0] at HRB HNM HPN HTM HP ⊢
  clear hp0
  obtain ⟨V, hV⟩ : ∃ V, V = parV p0 r1.a r1.n r1.c r2.a r2.n r2.c r3.a r3.n r3.c := ⟨_, rfl⟩
  rw [← hV]
  have HVE : Hid (V = [.int .u16 (cs : Int), .slice r1.a r1.n r1.c, .slice r2.a r2.n r2.c, .bool sk, .bool pd, .int .i32 pg, .bool rs, .int .i64 sv.kind, .slice r3.a r3.n r3.c, .bool sl, .int .u16 (sr : Int), .bool td, .int .i64 tm]) := Lib.hid (by rw [hV, HPE.out]; rfl)
  have HVP := Lib.hid hV; clear hV
  go_enter Try.func6, Try.ntmps6
  go_upto_region 1 with fail
  obtain ⟨w1, hw1⟩ : ∃ w1, w1 = w.alloc (.cells V.toArray 30) := ⟨_, rfl⟩
  rw [← hw1]
  have hB1 : Below w.heap.size w w1 := by rw [hw1]; exact (Below.refl _ _).alloc (Nat.le_refl _) _
  have HBX1 : Hid (Bx (fun b => b = w.heap.size) w1 w.heap.size V) := Lib.hid (by rw [hw1]; exact Bx.alloc w V.toArray 30 (S := fun b => b = w.heap.size) rfl rfl)
  have HB1 := Lib.hid hB1; clear hB1 hw1
  go_wp2_with fail
  refine (awake8 _).mono ?_
  rintro e w2 ⟨rfl, hb2⟩
  have HB2 := Lib.hid (HB1.out.trans (hb2.mono HB1.out.size))
  have HBX2 := Lib.hid (goesBx.after HBX1.out hb2)
  clear hb2 HBX1 HB1
  have HP2 := Lib.hid (goesPar.after HP.out HB2.out)
  have HI2 := Lib.hid (HI.out.after HB2.out)
  have hX2 : w.heap.size < w2.heap.size := HBX2.out.lt
  go_upto_region 4 with fail
  go_cut [8] (fun v wx => ∃ Q al, v = .pointer (some ⟨Q, 0, none⟩) ∧ w2.heap.size ≤ Q ∧ Hid (Bx (fun b => b = Q) wx Q (rqV (runRq op p0 idb) .z ⟨A, n, c⟩ r1 r2 r3 .z .z al)) ∧ Hid (RqR (fun _ => True) wx (runRq op p0 idb) .z ⟨A, n, c⟩ r1 r2 r3 .z .z al) ∧ Hid (Below w2.heap.size w2 wx))
  case first =>
    obtain rfl := HPE.out
    have hW2 : ¬ w2.heap.size ≤ w.heap.size := by omega
    have hkm := HKM.out
    have hdr : Below w2.heap.size w2 w2.drew := (Below.refl _ _).drew
    have f0 := Fr.each (T := fun b => w2.heap.size ≤ b) hW2 (kcell hdr (HBX2.out.c 0 _ (show V[0]? = some (.int .u16 (cs : Int)) by rw [HVE.out]; rfl)))
    have f1 := Fr.each (T := fun b => w2.heap.size ≤ b) hW2 (kcell hdr (HBX2.out.c 1 _ (show V[1]? = some (.slice r1.a r1.n r1.c) by rw [HVE.out]; rfl)))
    have f2 := Fr.each (T := fun b => w2.heap.size ≤ b) hW2 (kcell hdr (HBX2.out.c 2 _ (show V[2]? = some (.slice r2.a r2.n r2.c) by rw [HVE.out]; rfl)))
    have f3 := Fr.each (T := fun b => w2.heap.size ≤ b) hW2 (kcell hdr (HBX2.out.c 3 _ (show V[3]? = some (.bool sk) by rw [HVE.out]; rfl)))
    have f4 := Fr.each (T := fun b => w2.heap.size ≤ b) hW2 (kcell hdr (HBX2.out.c 4 _ (show V[4]? = some (.bool pd) by rw [HVE.out]; rfl)))
    have f5 := Fr.each (T := fun b => w2.heap.size ≤ b) hW2 (kcell hdr (HBX2.out.c 5 _ (show V[5]? = some (.int .i32 pg) by rw [HVE.out]; rfl)))
    have f6 := Fr.each (T := fun b => w2.heap.size ≤ b) hW2 (kcell hdr (HBX2.out.c 6 _ (show V[6]? = some (.bool rs) by rw [HVE.out]; rfl)))
    have f7 := Fr.each (T := fun b => w2.heap.size ≤ b) hW2 (kcell hdr (HBX2.out.c 7 _ (show V[7]? = some (.int .i64 sv.kind) by rw [HVE.out]; rfl)))
    have f8 := Fr.each (T := fun b => w2.heap.size ≤ b) hW2 (kcell hdr (HBX2.out.c 8 _ (show V[8]? = some (.slice r3.a r3.n r3.c) by rw [HVE.out]; rfl)))
    have f9 := Fr.each (T := fun b => w2.heap.size ≤ b) hW2 (kcell hdr (HBX2.out.c 9 _ (show V[9]? = some (.bool sl) by rw [HVE.out]; rfl)))
    have f10 := Fr.each (T := fun b => w2.heap.size ≤ b) hW2 (kcell hdr (HBX2.out.c 10 _ (show V[10]? = some (.int .u16 (sr : Int)) by rw [HVE.out]; rfl)))
    have f11 := Fr.each (T := fun b => w2.heap.size ≤ b) hW2 (kcell hdr (HBX2.out.c 11 _ (show V[11]? = some (.bool td) by rw [HVE.out]; rfl)))
    have f12 := Fr.each (T := fun b => w2.heap.size ≤ b) hW2 (kcell hdr (HBX2.out.c 12 _ (show V[12]? = some (.int .i64 tm) by rw [HVE.out]; rfl)))
    have HP3 := Lib.hid (goesPar.after HP2.out hdr)
    have HI3 := Lib.hid (HI2.out.after hdr)
    have HL : Below w2.heap.size w2 w2 := Below.refl _ _
    clear hdr
    refine regf_start (fun b => w2.heap.size ≤ b) (by kernel_rfl) ?_
    (refine regf_take 1 (v := ?_) (by rfl) (by kernel_rfl) (by kernel_rfl) (by kernel_rfl) (by exact fun _ _ _ h => h) (by rfl) ?_ ?_; rotate_left; focus (intro w hSw; go_simp; try with_reducible rfl))
    simp only [Act.put, List.setIfInBounds_toArray, List.set_cons_zero, List.set_cons_succ]
    (refine regf_take 2 (v := ?_) (by rfl) (by kernel_rfl) (by kernel_rfl) (by kernel_rfl) (by exact fun _ _ _ h => h) (by rfl) ?_ ?_; rotate_left; focus (intro w hSw; go_simp; try with_reducible rfl))
    simp only [Act.put, List.setIfInBounds_toArray, List.set_cons_zero, List.set_cons_succ]
    (refine regf_take 5 (v := ?_) (by rfl) (by kernel_rfl) (by kernel_rfl) (by kernel_rfl) (by exact fun _ _ _ h => h) (by rfl) ?_ ?_; rotate_left; focus (intro w hSw; go_simp; try with_reducible rfl))
    simp only [Act.put, List.setIfInBounds_toArray, List.set_cons_zero, List.set_cons_succ]
    (refine regf_take 6 (v := ?_) (by rfl) (by kernel_rfl) (by kernel_rfl) (by kernel_rfl) (by exact fun _ _ _ h => h) (by rfl) ?_ ?_; rotate_left; focus (intro w hSw; go_simp; try with_reducible rfl))
    simp only [Act.put, List.setIfInBounds_toArray, List.set_cons_zero, List.set_cons_succ]
    (refine regf_take 7 (v := ?_) (by rfl) (by kernel_rfl) (by kernel_rfl) (by kernel_rfl) (by exact fun _ _ _ h => h) (by rfl) ?_ ?_; rotate_left; focus (intro w hSw; go_simp; try with_reducible rfl))
    simp only [Act.put, List.setIfInBounds_toArray, List.set_cons_zero, List.set_cons_succ]
    (refine regf_take 8 (v := ?_) (by rfl) (by kernel_rfl) (by kernel_rfl) (by kernel_rfl) (by exact fun _ _ _ h => h) (by rfl) ?_ ?_; rotate_left; focus (intro w hSw; go_simp; try with_reducible rfl))
    simp only [Act.put, List.setIfInBounds_toArray, List.set_cons_zero, List.set_cons_succ]
    (refine regf_take 9 (v := ?_) (by rfl) (by kernel_rfl) (by kernel_rfl) (by kernel_rfl) (by exact fun _ _ _ h => h) (by rfl) ?_ ?_; rotate_left; focus (intro w hSw; go_simp; try with_reducible rfl))
    simp only [Act.put, List.setIfInBounds_toArray, List.set_cons_zero, List.set_cons_succ]
    (refine regf_take 10 (v := ?_) (by rfl) (by kernel_rfl) (by kernel_rfl) (by kernel_rfl) (by exact fun _ _ _ h => h) (by rfl) ?_ ?_; rotate_left; focus (intro w hSw; go_simp; try with_reducible rfl))
    simp only [Act.put, List.setIfInBounds_toArray, List.set_cons_zero, List.set_cons_succ]
    (refine regf_take 11 (v := ?_) (by rfl) (by kernel_rfl) (by kernel_rfl) (by kernel_rfl) (by exact fun _ _ _ h => h) (by rfl) ?_ ?_; rotate_left; focus (intro w hSw; go_simp; try with_reducible rfl))
    simp only [Act.put, List.setIfInBounds_toArray, List.set_cons_zero, List.set_cons_succ]
    refine regf_three 0 12 14 (by kernel_rfl) (by rfl) (by rfl) (by rfl) (fun K hK => ?_) (fun K hK => ?_) (fun K hK => ?_)
    focus
      go_simp
      (first | refine abs_cells (F := K _) ?_ | refine abs_cellsd (F := K _) ?_); intro wA hBA hXA; have hzA := hBA.size; replace HL := seqB HL hBA; (try replace hXB := goesBx.after hXB hBA); (try replace hXC := goesBx.after hXC hBA)
      refine hK.out _ _ ((by first | exact Fr.of_below hBA | exact Fr.of_below (below_undrew hBA))) ?_
      clear hK K
      try simp only [Act.put, List.setIfInBounds_toArray, List.set_cons_zero, List.set_cons_succ]
      (refine regf_take 3 (v := ?_) (by rfl) (by kernel_rfl) (by kernel_rfl) (by kernel_rfl) (by exact fun _ _ _ h => h) (by rfl) ?_ ?_; rotate_left; focus (intro w hSw; go_simp; try with_reducible rfl))
      simp only [Act.put, List.setIfInBounds_toArray, List.set_cons_zero, List.set_cons_succ]
      refine regf_three 4 12 14 (by kernel_rfl) (by rfl) (by rfl) (by rfl) (fun K hK => ?_) (fun K hK => ?_) (fun K hK => ?_)
      focus
        have zA := hXA.c k3 _ HOPK.out; go_simp
        refine hK.out _ _ ((Fr.refl _ _)) ?_
        clear hK K
        try simp only [Act.put, List.setIfInBounds_toArray, List.set_cons_zero, List.set_cons_succ]
        refine regf_two 12 14 (by kernel_rfl) (by rfl) (by rfl) (fun K hK => ?_) (fun K hK => ?_)
        focus
          go_simp
          (first | refine abs_cells (F := K _) ?_ | refine abs_cellsd (F := K _) ?_); intro wB hBB hXB; have hzB := hBB.size; (try have hBC := hXC.lt); replace HL := seqB HL hBB; (try replace hXA := goesBx.after hXA hBB); (try replace hXC := goesBx.after hXC hBB)
          refine hK.out _ _ ((by first | exact Fr.of_below hBB | exact Fr.of_below (below_undrew hBB))) ?_
          clear hK K
          try simp only [Act.put, List.setIfInBounds_toArray, List.set_cons_zero, List.set_cons_succ]
          (refine regf_take 13 (v := ?_) (by rfl) (by kernel_rfl) (by kernel_rfl) (by kernel_rfl) (by exact fun _ _ _ h => h) (by rfl) ?_ ?_; rotate_left; focus (intro w hSw; go_simp; try with_reducible rfl))
          simp only [Act.put, List.setIfInBounds_toArray, List.set_cons_zero, List.set_cons_succ]
          refine regf_call 14 (by kernel_rfl) (by rfl) (fun K hK => ?_)
          go_simp
          (first | refine abs_cells (F := K _) ?_ | refine abs_cellsd (F := K _) ?_); intro wC hBC0 hXC; have hzC := hBC0.size; (try have hBC := hXB.lt); replace HL := seqB HL hBC0; (try replace hXA := goesBx.after hXA hBC0); (try replace hXB := goesBx.after hXB hBC0)
          refine hK.out _ _ ((by first | exact Fr.of_below hBC0 | exact Fr.of_below (below_undrew hBC0))) ?_
          clear hK K
          try simp only [Act.put, List.setIfInBounds_toArray, List.set_cons_zero, List.set_cons_succ]
          refine regf_call 15 (by kernel_rfl) (by rfl) (fun K hK => ?_)
          refine step_storeB hXC (by rfl) 33 _ _ (by rfl) 0 (rqV (runRq op ⟨cs, values, names, sk, pd, pg, rs, sv, sl, sr, td, tm⟩ idb) .z ⟨A, n, c⟩ r1 r2 r3 .z .z ⟨some ⟨_, 0, none⟩, 2, 2⟩) (by rfl) (by rfl) (by kernel_rfl) (by show 0 + 22 ≤ 22; decide) (by rfl) ?_; intro w9 hx9 hg9
          refine hK.out _ _ ((Fr.of_one hg9 (by show w2.heap.size ≤ _; omega))) ?_
          clear hK K
          try simp only [Act.put, List.setIfInBounds_toArray, List.set_cons_zero, List.set_cons_succ]
          refine wpAnyH_done (by kernel_rfl) ?_ _
        rotate_left 1
        focus
          go_simp
          (first | refine abs_cells (F := K _) ?_ | refine abs_cellsd (F := K _) ?_); intro wC hBC0 hXC; have hzC := hBC0.size; (try have hBC := hXB.lt); replace HL := seqB HL hBC0; (try replace hXA := goesBx.after hXA hBC0); (try replace hXB := goesBx.after hXB hBC0)
          refine hK.out _ _ ((by first | exact Fr.of_below hBC0 | exact Fr.of_below (below_undrew hBC0))) ?_
          clear hK K
          try simp only [Act.put, List.setIfInBounds_toArray, List.set_cons_zero, List.set_cons_succ]
          refine regf_call 12 (by kernel_rfl) (by rfl) (fun K hK => ?_)
          go_simp
          (first | refine abs_cells (F := K _) ?_ | refine abs_cellsd (F := K _) ?_); intro wB hBB hXB; have hzB := hBB.size; (try have hBC := hXC.lt); replace HL := seqB HL hBB; (try replace hXA := goesBx.after hXA hBB); (try replace hXC := goesBx.after hXC hBB)
          refine hK.out _ _ ((by first | exact Fr.of_below hBB | exact Fr.of_below (below_undrew hBB))) ?_
          clear hK K
          try simp only [Act.put, List.setIfInBounds_toArray, List.set_cons_zero, List.set_cons_succ]
          (refine regf_take 13 (v := ?_) (by rfl) (by kernel_rfl) (by kernel_rfl) (by kernel_rfl) (by exact fun _ _ _ h => h) (by rfl) ?_ ?_; rotate_left; focus (intro w hSw; go_simp; try with_reducible rfl))
          simp only [Act.put, List.setIfInBounds_toArray, List.set_cons_zero, List.set_cons_succ]
          refine regf_call 15 (by kernel_rfl) (by rfl) (fun K hK => ?_)
          refine step_storeB hXC (by rfl) 33 _ _ (by rfl) 0 (rqV (runRq op ⟨cs, values, names, sk, pd, pg, rs, sv, sl, sr, td, tm⟩ idb) .z ⟨A, n, c⟩ r1 r2 r3 .z .z ⟨some ⟨_, 0, none⟩, 2, 2⟩) (by rfl) (by rfl) (by kernel_rfl) (by show 0 + 22 ≤ 22; decide) (by rfl) ?_; intro w9 hx9 hg9
          refine hK.out _ _ ((Fr.of_one hg9 (by show w2.heap.size ≤ _; omega))) ?_
          clear hK K
          try simp only [Act.put, List.setIfInBounds_toArray, List.set_cons_zero, List.set_cons_succ]
          refine wpAnyH_done (by kernel_rfl) ?_ _
      rotate_left 2
      focus
        go_simp
        (first | refine abs_cells (F := K _) ?_ | refine abs_cellsd (F := K _) ?_); intro wB hBB hXB; have hzB := hBB.size; (try have hBC := hXC.lt); replace HL := seqB HL hBB; (try replace hXA := goesBx.after hXA hBB); (try replace hXC := goesBx.after hXC hBB)
        refine hK.out _ _ ((by first | exact Fr.of_below hBB | exact Fr.of_below (below_undrew hBB))) ?_
        clear hK K
        try simp only [Act.put, List.setIfInBounds_toArray, List.set_cons_zero, List.set_cons_succ]
        refine regf_two 4 14 (by kernel_rfl) (by rfl) (by rfl) (fun K hK => ?_) (fun K hK => ?_)
        focus
          have zA := hXA.c k3 _ HOPK.out; go_simp
          refine hK.out _ _ ((Fr.refl _ _)) ?_
          clear hK K
          try simp only [Act.put, List.setIfInBounds_toArray, List.set_cons_zero, List.set_cons_succ]
          (refine regf_take 13 (v := ?_) (by rfl) (by kernel_rfl) (by kernel_rfl) (by kernel_rfl) (by exact fun _ _ _ h => h) (by rfl) ?_ ?_; rotate_left; focus (intro w hSw; go_simp; try with_reducible rfl))
          simp only [Act.put, List.setIfInBounds_toArray, List.set_cons_zero, List.set_cons_succ]
          refine regf_call 14 (by kernel_rfl) (by rfl) (fun K hK => ?_)
          go_simp
          (first | refine abs_cells (F := K _) ?_ | refine abs_cellsd (F := K _) ?_); intro wC hBC0 hXC; have hzC := hBC0.size; (try have hBC := hXB.lt); replace HL := seqB HL hBC0; (try replace hXA := goesBx.after hXA hBC0); (try replace hXB := goesBx.after hXB hBC0)
          refine hK.out _ _ ((by first | exact Fr.of_below hBC0 | exact Fr.of_below (below_undrew hBC0))) ?_
          clear hK K
          try simp only [Act.put, List.setIfInBounds_toArray, List.set_cons_zero, List.set_cons_succ]
          refine regf_call 15 (by kernel_rfl) (by rfl) (fun K hK => ?_)
          refine step_storeB hXC (by rfl) 33 _ _ (by rfl) 0 (rqV (runRq op ⟨cs, values, names, sk, pd, pg, rs, sv, sl, sr, td, tm⟩ idb) .z ⟨A, n, c⟩ r1 r2 r3 .z .z ⟨some ⟨_, 0, none⟩, 2, 2⟩) (by rfl) (by rfl) (by kernel_rfl) (by show 0 + 22 ≤ 22; decide) (by rfl) ?_; intro w9 hx9 hg9
          refine hK.out _ _ ((Fr.of_one hg9 (by show w2.heap.size ≤ _; omega))) ?_
          clear hK K
          try simp only [Act.put, List.setIfInBounds_toArray, List.set_cons_zero, List.set_cons_succ]
          refine wpAnyH_done (by kernel_rfl) ?_ _
        rotate_left 1
        focus
          go_simp
          (first | refine abs_cells (F := K _) ?_ | refine abs_cellsd (F := K _) ?_); intro wC hBC0 hXC; have hzC := hBC0.size; (try have hBC := hXB.lt); replace HL := seqB HL hBC0; (try replace hXA := goesBx.after hXA hBC0); (try replace hXB := goesBx.after hXB hBC0)
          refine hK.out _ _ ((by first | exact Fr.of_below hBC0 | exact Fr.of_below (below_undrew hBC0))) ?_
          clear hK K
          try simp only [Act.put, List.setIfInBounds_toArray, List.set_cons_zero, List.set_cons_succ]
          refine regf_call 4 (by kernel_rfl) (by rfl) (fun K hK => ?_)
          have zA := hXA.c k3 _ HOPK.out; go_simp
          refine hK.out _ _ ((Fr.refl _ _)) ?_
          clear hK K
          try simp only [Act.put, List.setIfInBounds_toArray, List.set_cons_zero, List.set_cons_succ]
          (refine regf_take 13 (v := ?_) (by rfl) (by kernel_rfl) (by kernel_rfl) (by kernel_rfl) (by exact fun _ _ _ h => h) (by rfl) ?_ ?_; rotate_left; focus (intro w hSw; go_simp; try with_reducible rfl))
          simp only [Act.put, List.setIfInBounds_toArray, List.set_cons_zero, List.set_cons_succ]
          refine regf_call 15 (by kernel_rfl) (by rfl) (fun K hK => ?_)
          refine step_storeB hXC (by rfl) 33 _ _ (by rfl) 0 (rqV (runRq op ⟨cs, values, names, sk, pd, pg, rs, sv, sl, sr, td, tm⟩ idb) .z ⟨A, n, c⟩ r1 r2 r3 .z .z ⟨some ⟨_, 0, none⟩, 2, 2⟩) (by rfl) (by rfl) (by kernel_rfl) (by show 0 + 22 ≤ 22; decide) (by rfl) ?_; intro w9 hx9 hg9
          refine hK.out _ _ ((Fr.of_one hg9 (by show w2.heap.size ≤ _; omega))) ?_
          clear hK K
          try simp only [Act.put, List.setIfInBounds_toArray, List.set_cons_zero, List.set_cons_succ]
          refine wpAnyH_done (by kernel_rfl) ?_ _
      rotate_left 2
      focus
        go_simp
        (first | refine abs_cells (F := K _) ?_ | refine abs_cellsd (F := K _) ?_); intro wC hBC0 hXC; have hzC := hBC0.size; (try have hBC := hXB.lt); replace HL := seqB HL hBC0; (try replace hXA := goesBx.after hXA hBC0); (try replace hXB := goesBx.after hXB hBC0)
        refine hK.out _ _ ((by first | exact Fr.of_below hBC0 | exact Fr.of_below (below_undrew hBC0))) ?_
        clear hK K
        try simp only [Act.put, List.setIfInBounds_toArray, List.set_cons_zero, List.set_cons_succ]
        refine regf_two 4 12 (by kernel_rfl) (by rfl) (by rfl) (fun K hK => ?_) (fun K hK => ?_)
        focus
          have zA := hXA.c k3 _ HOPK.out; go_simp
          refine hK.out _ _ ((Fr.refl _ _)) ?_
          clear hK K
          try simp only [Act.put, List.setIfInBounds_toArray, List.set_cons_zero, List.set_cons_succ]
          refine regf_call 12 (by kernel_rfl) (by rfl) (fun K hK => ?_)
          go_simp
          (first | refine abs_cells (F := K _) ?_ | refine abs_cellsd (F := K _) ?_); intro wB hBB hXB; have hzB := hBB.size; (try have hBC := hXC.lt); replace HL := seqB HL hBB; (try replace hXA := goesBx.after hXA hBB); (try replace hXC := goesBx.after hXC hBB)
          refine hK.out _ _ ((by first | exact Fr.of_below hBB | exact Fr.of_below (below_undrew hBB))) ?_
          clear hK K
          try simp only [Act.put, List.setIfInBounds_toArray, List.set_cons_zero, List.set_cons_succ]
          (refine regf_take 13 (v := ?_) (by rfl) (by kernel_rfl) (by kernel_rfl) (by kernel_rfl) (by exact fun _ _ _ h => h) (by rfl) ?_ ?_; rotate_left; focus (intro w hSw; go_simp; try with_reducible rfl))
          simp only [Act.put, List.setIfInBounds_toArray, List.set_cons_zero, List.set_cons_succ]
          refine regf_call 15 (by kernel_rfl) (by rfl) (fun K hK => ?_)
          refine step_storeB hXC (by rfl) 33 _ _ (by rfl) 0 (rqV (runRq op ⟨cs, values, names, sk, pd, pg, rs, sv, sl, sr, td, tm⟩ idb) .z ⟨A, n, c⟩ r1 r2 r3 .z .z ⟨some ⟨_, 0, none⟩, 2, 2⟩) (by rfl) (by rfl) (by kernel_rfl) (by show 0 + 22 ≤ 22; decide) (by rfl) ?_; intro w9 hx9 hg9
          refine hK.out _ _ ((Fr.of_one hg9 (by show w2.heap.size ≤ _; omega))) ?_
          clear hK K
          try simp only [Act.put, List.setIfInBounds_toArray, List.set_cons_zero, List.set_cons_succ]
          refine wpAnyH_done (by kernel_rfl) ?_ _
        rotate_left 1
        focus
          go_simp
          (first | refine abs_cells (F := K _) ?_ | refine abs_cellsd (F := K _) ?_); intro wB hBB hXB; have hzB := hBB.size; (try have hBC := hXC.lt); replace HL := seqB HL hBB; (try replace hXA := goesBx.after hXA hBB); (try replace hXC := goesBx.after hXC hBB)
          refine hK.out _ _ ((by first | exact Fr.of_below hBB | exact Fr.of_below (below_undrew hBB))) ?_
          clear hK K
          try simp only [Act.put, List.setIfInBounds_toArray, List.set_cons_zero, List.set_cons_succ]
          refine regf_call 4 (by kernel_rfl) (by rfl) (fun K hK => ?_)
          have zA := hXA.c k3 _ HOPK.out; go_simp
          refine hK.out _ _ ((Fr.refl _ _)) ?_
          clear hK K
          try simp only [Act.put, List.setIfInBounds_toArray, List.set_cons_zero, List.set_cons_succ]
          (refine regf_take 13 (v := ?_) (by rfl) (by kernel_rfl) (by kernel_rfl) (by kernel_rfl) (by exact fun _ _ _ h => h) (by rfl) ?_ ?_; rotate_left; focus (intro w hSw; go_simp; try with_reducible rfl))
          simp only [Act.put, List.setIfInBounds_toArray, List.set_cons_zero, List.set_cons_succ]
          refine regf_call 15 (by kernel_rfl) (by rfl) (fun K hK => ?_)
          refine step_storeB hXC (by rfl) 33 _ _ (by rfl) 0 (rqV (runRq op ⟨cs, values, names, sk, pd, pg, rs, sv, sl, sr, td, tm⟩ idb) .z ⟨A, n, c⟩ r1 r2 r3 .z .z ⟨some ⟨_, 0, none⟩, 2, 2⟩) (by rfl) (by rfl) (by kernel_rfl) (by show 0 + 22 ≤ 22; decide) (by rfl) ?_; intro w9 hx9 hg9
          refine hK.out _ _ ((Fr.of_one hg9 (by show w2.heap.size ≤ _; omega))) ?_
          clear hK K
          try simp only [Act.put, List.setIfInBounds_toArray, List.set_cons_zero, List.set_cons_succ]
          refine wpAnyH_done (by kernel_rfl) ?_ _
    rotate_left 6
    focus
      go_simp
      (first | refine abs_cells (F := K _) ?_ | refine abs_cellsd (F := K _) ?_); intro wB hBB hXB; have hzB := hBB.size; (try have hBC := hXC.lt); replace HL := seqB HL hBB; (try replace hXA := goesBx.after hXA hBB); (try replace hXC := goesBx.after hXC hBB)
      refine hK.out _ _ ((by first | exact Fr.of_below hBB | exact Fr.of_below (below_undrew hBB))) ?_
      clear hK K
      try simp only [Act.put, List.setIfInBounds_toArray, List.set_cons_zero, List.set_cons_succ]
      refine regf_two 0 14 (by kernel_rfl) (by rfl) (by rfl) (fun K hK => ?_) (fun K hK => ?_)
      focus
        go_simp
        (first | refine abs_cells (F := K _) ?_ | refine abs_cellsd (F := K _) ?_); intro wA hBA hXA; have hzA := hBA.size; replace HL := seqB HL hBA; (try replace hXB := goesBx.after hXB hBA); (try replace hXC := goesBx.after hXC hBA)
        refine hK.out _ _ ((by first | exact Fr.of_below hBA | exact Fr.of_below (below_undrew hBA))) ?_
        clear hK K
        try simp only [Act.put, List.setIfInBounds_toArray, List.set_cons_zero, List.set_cons_succ]
        (refine regf_take 3 (v := ?_) (by rfl) (by kernel_rfl) (by kernel_rfl) (by kernel_rfl) (by exact fun _ _ _ h => h) (by rfl) ?_ ?_; rotate_left; focus (intro w hSw; go_simp; try with_reducible rfl))
        simp only [Act.put, List.setIfInBounds_toArray, List.set_cons_zero, List.set_cons_succ]
        refine regf_two 4 14 (by kernel_rfl) (by rfl) (by rfl) (fun K hK => ?_) (fun K hK => ?_)
        focus
          have zA := hXA.c k3 _ HOPK.out; go_simp
          refine hK.out _ _ ((Fr.refl _ _)) ?_
          clear hK K
          try simp only [Act.put, List.setIfInBounds_toArray, List.set_cons_zero, List.set_cons_succ]
          (refine regf_take 13 (v := ?_) (by rfl) (by kernel_rfl) (by kernel_rfl) (by kernel_rfl) (by exact fun _ _ _ h => h) (by rfl) ?_ ?_; rotate_left; focus (intro w hSw; go_simp; try with_reducible rfl))
          simp only [Act.put, List.setIfInBounds_toArray, List.set_cons_zero, List.set_cons_succ]
          refine regf_call 14 (by kernel_rfl) (by rfl) (fun K hK => ?_)
          go_simp
          (first | refine abs_cells (F := K _) ?_ | refine abs_cellsd (F := K _) ?_); intro wC hBC0 hXC; have hzC := hBC0.size; (try have hBC := hXB.lt); replace HL := seqB HL hBC0; (try replace hXA := goesBx.after hXA hBC0); (try replace hXB := goesBx.after hXB hBC0)
          refine hK.out _ _ ((by first | exact Fr.of_below hBC0 | exact Fr.of_below (below_undrew hBC0))) ?_
          clear hK K
          try simp only [Act.put, List.setIfInBounds_toArray, List.set_cons_zero, List.set_cons_succ]
          refine regf_call 15 (by kernel_rfl) (by rfl) (fun K hK => ?_)
          refine step_storeB hXC (by rfl) 33 _ _ (by rfl) 0 (rqV (runRq op ⟨cs, values, names, sk, pd, pg, rs, sv, sl, sr, td, tm⟩ idb) .z ⟨A, n, c⟩ r1 r2 r3 .z .z ⟨some ⟨_, 0, none⟩, 2, 2⟩) (by rfl) (by rfl) (by kernel_rfl) (by show 0 + 22 ≤ 22; decide) (by rfl) ?_; intro w9 hx9 hg9
          refine hK.out _ _ ((Fr.of_one hg9 (by show w2.heap.size ≤ _; omega))) ?_
          clear hK K
          try simp only [Act.put, List.setIfInBounds_toArray, List.set_cons_zero, List.set_cons_succ]
          refine wpAnyH_done (by kernel_rfl) ?_ _
        rotate_left 1
        focus
          go_simp
          (first | refine abs_cells (F := K _) ?_ | refine abs_cellsd (F := K _) ?_); intro wC hBC0 hXC; have hzC := hBC0.size; (try have hBC := hXB.lt); replace HL := seqB HL hBC0; (try replace hXA := goesBx.after hXA hBC0); (try replace hXB := goesBx.after hXB hBC0)
          refine hK.out _ _ ((by first | exact Fr.of_below hBC0 | exact Fr.of_below (below_undrew hBC0))) ?_
          clear hK K
          try simp only [Act.put, List.setIfInBounds_toArray, List.set_cons_zero, List.set_cons_succ]
          refine regf_call 4 (by kernel_rfl) (by rfl) (fun K hK => ?_)
          have zA := hXA.c k3 _ HOPK.out; go_simp
          refine hK.out _ _ ((Fr.refl _ _)) ?_
          clear hK K
          try simp only [Act.put, List.setIfInBounds_toArray, List.set_cons_zero, List.set_cons_succ]
          (refine regf_take 13 (v := ?_) (by rfl) (by kernel_rfl) (by kernel_rfl) (by kernel_rfl) (by exact fun _ _ _ h => h) (by rfl) ?_ ?_; rotate_left; focus (intro w hSw; go_simp; try with_reducible rfl))
          simp only [Act.put, List.setIfInBounds_toArray, List.set_cons_zero, List.set_cons_succ]
          refine regf_call 15 (by kernel_rfl) (by rfl) (fun K hK => ?_)
          refine step_storeB hXC (by rfl) 33 _ _ (by rfl) 0 (rqV (runRq op ⟨cs, values, names, sk, pd, pg, rs, sv, sl, sr, td, tm⟩ idb) .z ⟨A, n, c⟩ r1 r2 r3 .z .z ⟨some ⟨_, 0, none⟩, 2, 2⟩) (by rfl) (by rfl) (by kernel_rfl) (by show 0 + 22 ≤ 22; decide) (by rfl) ?_; intro w9 hx9 hg9
          refine hK.out _ _ ((Fr.of_one hg9 (by show w2.heap.size ≤ _; omega))) ?_
          clear hK K
          try simp only [Act.put, List.setIfInBounds_toArray, List.set_cons_zero, List.set_cons_succ]
          refine wpAnyH_done (by kernel_rfl) ?_ _
      rotate_left 2
      focus
        go_simp
        (first | refine abs_cells (F := K _) ?_ | refine abs_cellsd (F := K _) ?_); intro wC hBC0 hXC; have hzC := hBC0.size; (try have hBC := hXB.lt); replace HL := seqB HL hBC0; (try replace hXA := goesBx.after hXA hBC0); (try replace hXB := goesBx.after hXB hBC0)
        refine hK.out _ _ ((by first | exact Fr.of_below hBC0 | exact Fr.of_below (below_undrew hBC0))) ?_
        clear hK K
        try simp only [Act.put, List.setIfInBounds_toArray, List.set_cons_zero, List.set_cons_succ]
        refine regf_call 0 (by kernel_rfl) (by rfl) (fun K hK => ?_)
        go_simp
        (first | refine abs_cells (F := K _) ?_ | refine abs_cellsd (F := K _) ?_); intro wA hBA hXA; have hzA := hBA.size; replace HL := seqB HL hBA; (try replace hXB := goesBx.after hXB hBA); (try replace hXC := goesBx.after hXC hBA)
        refine hK.out _ _ ((by first | exact Fr.of_below hBA | exact Fr.of_below (below_undrew hBA))) ?_
        clear hK K
        try simp only [Act.put, List.setIfInBounds_toArray, List.set_cons_zero, List.set_cons_succ]
        (refine regf_take 3 (v := ?_) (by rfl) (by kernel_rfl) (by kernel_rfl) (by kernel_rfl) (by exact fun _ _ _ h => h) (by rfl) ?_ ?_; rotate_left; focus (intro w hSw; go_simp; try with_reducible rfl))
        simp only [Act.put, List.setIfInBounds_toArray, List.set_cons_zero, List.set_cons_succ]
        refine regf_call 4 (by kernel_rfl) (by rfl) (fun K hK => ?_)
        have zA := hXA.c k3 _ HOPK.out; go_simp
        refine hK.out _ _ ((Fr.refl _ _)) ?_
        clear hK K
        try simp only [Act.put, List.setIfInBounds_toArray, List.set_cons_zero, List.set_cons_succ]
        (refine regf_take 13 (v := ?_) (by rfl) (by kernel_rfl) (by kernel_rfl) (by kernel_rfl) (by exact fun _ _ _ h => h) (by rfl) ?_ ?_; rotate_left; focus (intro w hSw; go_simp; try with_reducible rfl))
        simp only [Act.put, List.setIfInBounds_toArray, List.set_cons_zero, List.set_cons_succ]
        refine regf_call 15 (by kernel_rfl) (by rfl) (fun K hK => ?_)
        refine step_storeB hXC (by rfl) 33 _ _ (by rfl) 0 (rqV (runRq op ⟨cs, values, names, sk, pd, pg, rs, sv, sl, sr, td, tm⟩ idb) .z ⟨A, n, c⟩ r1 r2 r3 .z .z ⟨some ⟨_, 0, none⟩, 2, 2⟩) (by rfl) (by rfl) (by kernel_rfl) (by show 0 + 22 ≤ 22; decide) (by rfl) ?_; intro w9 hx9 hg9
        refine hK.out _ _ ((Fr.of_one hg9 (by show w2.heap.size ≤ _; omega))) ?_
        clear hK K
        try simp only [Act.put, List.setIfInBounds_toArray, List.set_cons_zero, List.set_cons_succ]
        refine wpAnyH_done (by kernel_rfl) ?_ _
    rotate_left 3
    focus
      go_simp
      (first | refine abs_cells (F := K _) ?_ | refine abs_cellsd (F := K _) ?_); intro wC hBC0 hXC; have hzC := hBC0.size; (try have hBC := hXB.lt); replace HL := seqB HL hBC0; (try replace hXA := goesBx.after hXA hBC0); (try replace hXB := goesBx.after hXB hBC0)
      refine hK.out _ _ ((by first | exact Fr.of_below hBC0 | exact Fr.of_below (below_undrew hBC0))) ?_
      clear hK K
      try simp only [Act.put, List.setIfInBounds_toArray, List.set_cons_zero, List.set_cons_succ]
      refine regf_two 0 12 (by kernel_rfl) (by rfl) (by rfl) (fun K hK => ?_) (fun K hK => ?_)
      focus
        go_simp
        (first | refine abs_cells (F := K _) ?_ | refine abs_cellsd (F := K _) ?_); intro wA hBA hXA; have hzA := hBA.size; replace HL := seqB HL hBA; (try replace hXB := goesBx.after hXB hBA); (try replace hXC := goesBx.after hXC hBA)
        refine hK.out _ _ ((by first | exact Fr.of_below hBA | exact Fr.of_below (below_undrew hBA))) ?_
        clear hK K
        try simp only [Act.put, List.setIfInBounds_toArray, List.set_cons_zero, List.set_cons_succ]
        (refine regf_take 3 (v := ?_) (by rfl) (by kernel_rfl) (by kernel_rfl) (by kernel_rfl) (by exact fun _ _ _ h => h) (by rfl) ?_ ?_; rotate_left; focus (intro w hSw; go_simp; try with_reducible rfl))
        simp only [Act.put, List.setIfInBounds_toArray, List.set_cons_zero, List.set_cons_succ]
        refine regf_two 4 12 (by kernel_rfl) (by rfl) (by rfl) (fun K hK => ?_) (fun K hK => ?_)
        focus
          have zA := hXA.c k3 _ HOPK.out; go_simp
          refine hK.out _ _ ((Fr.refl _ _)) ?_
          clear hK K
          try simp only [Act.put, List.setIfInBounds_toArray, List.set_cons_zero, List.set_cons_succ]
          refine regf_call 12 (by kernel_rfl) (by rfl) (fun K hK => ?_)
          go_simp
          (first | refine abs_cells (F := K _) ?_ | refine abs_cellsd (F := K _) ?_); intro wB hBB hXB; have hzB := hBB.size; (try have hBC := hXC.lt); replace HL := seqB HL hBB; (try replace hXA := goesBx.after hXA hBB); (try replace hXC := goesBx.after hXC hBB)
          refine hK.out _ _ ((by first | exact Fr.of_below hBB | exact Fr.of_below (below_undrew hBB))) ?_
          clear hK K
          try simp only [Act.put, List.setIfInBounds_toArray, List.set_cons_zero, List.set_cons_succ]
          (refine regf_take 13 (v := ?_) (by rfl) (by kernel_rfl) (by kernel_rfl) (by kernel_rfl) (by exact fun _ _ _ h => h) (by rfl) ?_ ?_; rotate_left; focus (intro w hSw; go_simp; try with_reducible rfl))
          simp only [Act.put, List.setIfInBounds_toArray, List.set_cons_zero, List.set_cons_succ]
          refine regf_call 15 (by kernel_rfl) (by rfl) (fun K hK => ?_)
          refine step_storeB hXC (by rfl) 33 _ _ (by rfl) 0 (rqV (runRq op ⟨cs, values, names, sk, pd, pg, rs, sv, sl, sr, td, tm⟩ idb) .z ⟨A, n, c⟩ r1 r2 r3 .z .z ⟨some ⟨_, 0, none⟩, 2, 2⟩) (by rfl) (by rfl) (by kernel_rfl) (by show 0 + 22 ≤ 22; decide) (by rfl) ?_; intro w9 hx9 hg9
          refine hK.out _ _ ((Fr.of_one hg9 (by show w2.heap.size ≤ _; omega))) ?_
          clear hK K
          try simp only [Act.put, List.setIfInBounds_toArray, List.set_cons_zero, List.set_cons_succ]
          refine wpAnyH_done (by kernel_rfl) ?_ _
        rotate_left 1
        focus
          go_simp
          (first | refine abs_cells (F := K _) ?_ | refine abs_cellsd (F := K _) ?_); intro wB hBB hXB; have hzB := hBB.size; (try have hBC := hXC.lt); replace HL := seqB HL hBB; (try replace hXA := goesBx.after hXA hBB); (try replace hXC := goesBx.after hXC hBB)
          refine hK.out _ _ ((by first | exact Fr.of_below hBB | exact Fr.of_below (below_undrew hBB))) ?_
          clear hK K
          try simp only [Act.put, List.setIfInBounds_toArray, List.set_cons_zero, List.set_cons_succ]
          refine regf_call 4 (by kernel_rfl) (by rfl) (fun K hK => ?_)
          have zA := hXA.c k3 _ HOPK.out; go_simp
          refine hK.out _ _ ((Fr.refl _ _)) ?_
          clear hK K
          try simp only [Act.put, List.setIfInBounds_toArray, List.set_cons_zero, List.set_cons_succ]
          (refine regf_take 13 (v := ?_) (by rfl) (by kernel_rfl) (by kernel_rfl) (by kernel_rfl) (by exact fun _ _ _ h => h) (by rfl) ?_ ?_; rotate_left; focus (intro w hSw; go_simp; try with_reducible rfl))
          simp only [Act.put, List.setIfInBounds_toArray, List.set_cons_zero, List.set_cons_succ]
          refine regf_call 15 (by kernel_rfl) (by rfl) (fun K hK => ?_)
          refine step_storeB hXC (by rfl) 33 _ _ (by rfl) 0 (rqV (runRq op ⟨cs, values, names, sk, pd, pg, rs, sv, sl, sr, td, tm⟩ idb) .z ⟨A, n, c⟩ r1 r2 r3 .z .z ⟨some ⟨_, 0, none⟩, 2, 2⟩) (by rfl) (by rfl) (by kernel_rfl) (by show 0 + 22 ≤ 22; decide) (by rfl) ?_; intro w9 hx9 hg9
          refine hK.out _ _ ((Fr.of_one hg9 (by show w2.heap.size ≤ _; omega))) ?_
          clear hK K
          try simp only [Act.put, List.setIfInBounds_toArray, List.set_cons_zero, List.set_cons_succ]
          refine wpAnyH_done (by kernel_rfl) ?_ _
      rotate_left 2
      focus
        go_simp
        (first | refine abs_cells (F := K _) ?_ | refine abs_cellsd (F := K _) ?_); intro wB hBB hXB; have hzB := hBB.size; (try have hBC := hXC.lt); replace HL := seqB HL hBB; (try replace hXA := goesBx.after hXA hBB); (try replace hXC := goesBx.after hXC hBB)
        refine hK.out _ _ ((by first | exact Fr.of_below hBB | exact Fr.of_below (below_undrew hBB))) ?_
        clear hK K
        try simp only [Act.put, List.setIfInBounds_toArray, List.set_cons_zero, List.set_cons_succ]
        refine regf_call 0 (by kernel_rfl) (by rfl) (fun K hK => ?_)
        go_simp
        (first | refine abs_cells (F := K _) ?_ | refine abs_cellsd (F := K _) ?_); intro wA hBA hXA; have hzA := hBA.size; replace HL := seqB HL hBA; (try replace hXB := goesBx.after hXB hBA); (try replace hXC := goesBx.after hXC hBA)
        refine hK.out _ _ ((by first | exact Fr.of_below hBA | exact Fr.of_below (below_undrew hBA))) ?_
        clear hK K
        try simp only [Act.put, List.setIfInBounds_toArray, List.set_cons_zero, List.set_cons_succ]
        (refine regf_take 3 (v := ?_) (by rfl) (by kernel_rfl) (by kernel_rfl) (by kernel_rfl) (by exact fun _ _ _ h => h) (by rfl) ?_ ?_; rotate_left; focus (intro w hSw; go_simp; try with_reducible rfl))
        simp only [Act.put, List.setIfInBounds_toArray, List.set_cons_zero, List.set_cons_succ]
        refine regf_call 4 (by kernel_rfl) (by rfl) (fun K hK => ?_)
        have zA := hXA.c k3 _ HOPK.out; go_simp
        refine hK.out _ _ ((Fr.refl _ _)) ?_
        clear hK K
        try simp only [Act.put, List.setIfInBounds_toArray, List.set_cons_zero, List.set_cons_succ]
        (refine regf_take 13 (v := ?_) (by rfl) (by kernel_rfl) (by kernel_rfl) (by kernel_rfl) (by exact fun _ _ _ h => h) (by rfl) ?_ ?_; rotate_left; focus (intro w hSw; go_simp; try with_reducible rfl))
        simp only [Act.put, List.setIfInBounds_toArray, List.set_cons_zero, List.set_cons_succ]
        refine regf_call 15 (by kernel_rfl) (by rfl) (fun K hK => ?_)
        refine step_storeB hXC (by rfl) 33 _ _ (by rfl) 0 (rqV (runRq op ⟨cs, values, names, sk, pd, pg, rs, sv, sl, sr, td, tm⟩ idb) .z ⟨A, n, c⟩ r1 r2 r3 .z .z ⟨some ⟨_, 0, none⟩, 2, 2⟩) (by rfl) (by rfl) (by kernel_rfl) (by show 0 + 22 ≤ 22; decide) (by rfl) ?_; intro w9 hx9 hg9
        refine hK.out _ _ ((Fr.of_one hg9 (by show w2.heap.size ≤ _; omega))) ?_
        clear hK K
        try simp only [Act.put, List.setIfInBounds_toArray, List.set_cons_zero, List.set_cons_succ]
        refine wpAnyH_done (by kernel_rfl) ?_ _
    all_goals
      have hB9 : Below w2.heap.size w2 w9 := Below.grown1 HL hg9 HL.size (by have := hXC.lt; omega)
      have hRB := goesBx.keep hXB hg9.size fun b hb hlt => hg9.block b hlt (fun e => by injection e with e; have hb : b = _ := hb; omega)
      have HXC := Lib.hid hx9
      have HRB9 := Lib.hid hRB
      have HB9 := Lib.hid hB9
      clear hx9 hRB hB9 hg9 hXA hXB hXC HL
      have HP9 := Lib.hid (goesPar.after HP2.out HB9.out)
      have HI9 := Lib.hid (HI2.out.after HB9.out)
      go_wp2_with fail
      go_meet
      refine ⟨_, _, rfl, (by omega), Lib.hid (goesBx.mono HXC.out fun b hb _ => hb), Lib.hid ?_, HB9⟩
      refine ⟨Arr.nil, (by show ([120] : B).length ≤ _; decide), HI9.out, ?_, Arr.nil, Sl.nil, ?_⟩
      · exact HP9.out
      · exact arr_two (v1 := [.bool false, .string (str [121]), .slice none 0 0, .slice r1.a r1.n r1.c]) (v2 := [.bool true, .string (str []), .slice A n c, .slice none 0 0]) HRB9.out rfl rfl ⟨none, 0, 0, _, _, _, rfl, (by show ([121] : B).length ≤ _; decide), Sl.nil, HP9.out.values⟩ ⟨_, _, _, none, 0, 0, rfl, Nat.zero_le _, HI9.out, Arr.nil⟩
  obtain ⟨Q, al, rfl, hQ2, HX3, HQ3, HBc⟩ := hcut
  obtain ⟨w3, hwo⟩ : ∃ wo, wo = wc := ⟨_, rfl⟩
  subst hwo
  have HB3 := Lib.hid (HB2.out.trans (HBc.out.mono HB2.out.size))
  have HBP3 := Lib.hid (goesBx.after HBX2.out HBc.out)
  have hQX : Q ≠ w.heap.size := by omega
  clear HBc HP2 HI2 HBX2 HB2
  obtain ⟨q, hq⟩ : ∃ q, q = runRq op p0 idb := ⟨_, rfl⟩
  have hqo : q.opcode = op := by rw [hq]; rfl
  have hqk : q.kind < 256 := by rw [hq]; show 0 < 256; decide
  have hqn : ParN q.run := by rw [hq]; exact HPN.out
  rw [← hq] at HX3 HQ3 HRB HNM
  clear hq
  have HQO := Lib.hid hqo; clear hqo
  have HQK := Lib.hid hqk; clear hqk
  have HQN := Lib.hid hqn; clear hqn
  obtain ⟨vs, hvs⟩ : ∃ vs, vs = rqV q .z ⟨A, n, c⟩ r1 r2 r3 .z .z al := ⟨_, rfl⟩
  have hvl : vs.length = 22 := by rw [hvs]; rfl
  rw [← hvs] at HX3
  have HV0 : Hid (vs[0]? = some (.int .u8 (op : Int))) := Lib.hid (by rw [hvs, ← HQO.out]; rfl)
  have HVS := Lib.hid hvs; clear hvs
  have HVL := Lib.hid hvl; clear hvl
  have hop2 : q.opcode < 256 := by rw [HQO.out]; exact hop
  have HOP2 := Lib.hid hop2; clear hop2
  go_wp2_with (first | (refine wpList_loadB HX3.out (by rfl) 33 _ (by rfl) (by rfl) _ Try.underlying33 rfl (by rw [HVL.out]; kernel_rfl) ?_))
  have hsl := slight8_any HQ3.out HRB.out
  rw [← HVS.out] at hsl
  refine hsl.mono ?_
  clear hsl
  rintro e w4 ⟨β, rfl, hβ, hb4⟩
  have HB4 := Lib.hid (HB3.out.trans (hb4.mono HB3.out.size))
  have HX4 := Lib.hid (goesBx.after HX3.out hb4)
  have HBP4 := Lib.hid (goesBx.after HBP3.out hb4)
  have HQ4 := Lib.hid (goesRq.after HQ3.out hb4)
  clear hb4 HX3 HBP3 HQ3
  have HBE := Lib.hid hβ; clear hβ
  cases β with
  | false =>
    go_wp2_with fail
    go_ret
    exact ⟨rfl, HB4.out⟩
  | true =>
    have HL := Lib.hid (light_of HRB.out (HBE.out rfl)); clear HBE
    by_cases hbig : 300 < n
    · go_wp2_with fail
      go_ret
      exact ⟨rfl, HB4.out⟩
    go_wp2_with (first | (refine wpList_loadB HX4.out (by rfl) 33 _ (by rfl) (by rfl) _ Try.underlying33 rfl (by rw [HVL.out]; kernel_rfl) ?_))
    obtain ⟨r, hr⟩ : ∃ r, putRq q = r := ⟨_, rfl⟩
    have hw := put_le q
    rw [hr] at hw
    have HW := Lib.hid hw; clear hw
    have HR := Lib.hid hr; clear hr
    have hput := wPut_any HQ4.out HOP2.out HQK.out HQN.out (by have := HL.out; omega) r HR.out
    rw [← HVS.out] at hput
    refine hput.mono ?_
    clear hput
    rintro e w5 ⟨A5, n5, c5, rfl, hs5, hb5⟩
    have HS5 := Lib.hid hs5; clear hs5
    have HB5 := Lib.hid (HB4.out.trans (hb5.mono HB4.out.size))
    have HX5 := Lib.hid (goesBx.after HX4.out hb5)
    have HBP5 := Lib.hid (goesBx.after HBP4.out hb5)
    have HQ5 := Lib.hid (goesRq.after HQ4.out hb5)
    clear hb5 HX4 HBP4 HQ4
    go_wp2_with (first | (refine wpList_loadB HX5.out (by rfl) 33 _ (by rfl) (by rfl) _ Try.underlying33 rfl (by rw [HVL.out]; kernel_rfl) ?_))
    have hof := requestOf_any HQ5.out (rqL_of HRB.out)
    rw [← HVS.out] at hof
    refine hof.mono ?_
    clear hof
    rintro e w6 ⟨o6, x1, x2, ev6, al6, rfl, hq6, hb6⟩
    have HQ6 := Lib.hid hq6
    have HB6 := Lib.hid (HB5.out.trans (hb6.mono HB5.out.size))
    have HS6 := Lib.hid (HS5.out.after hb6)
    have HX6 := Lib.hid (goesBx.after HX5.out hb6)
    have HBP6 := Lib.hid (goesBx.after HBP5.out hb6)
    clear hq6 hb6 HX5 HBP5 HS5 HQ5
    obtain ⟨us, hus⟩ : ∃ us, us = rfV q o6 x1 x2 ev6 al6 := ⟨_, rfl⟩
    rw [← hus]
    have HUS := Lib.hid hus; clear hus
    go_wp2_with fail
    have hput := rPut8_any HQ6.out HOP2.out HQK.out HQN.out (by have := HL.out; omega) r HR.out
    rw [← HUS.out] at hput
    refine hput.mono ?_
    clear hput
    rintro e w7 ⟨A7, n7, c7, rfl, hs7, hb7⟩
    have HB7 := Lib.hid (HB6.out.trans (hb7.mono HB6.out.size))
    have HS7 := Lib.hid (HS6.out.after hb7)
    have HX7 := Lib.hid (goesBx.after HX6.out hb7)
    have HBP7 := Lib.hid (goesBx.after HBP6.out hb7)
    have c1' := conv_sl HS7.out
    have c2' := conv_sl hs7
    clear hb7 hs7 HX6 HBP6 HS6 HQ6
    cases r with
    | error e =>
      have hne : (e != 0) = true := by simpa using putRq_ne HR.out
      simp only [werr_error, wval_error] at c1' c2' ⊢
      go_wp2_with fail
      go_ret
      exact ⟨by simp, HB7.out⟩
    | ok b =>
      simp only [werr_ok, wval_ok] at c1' c2' HS7 ⊢
      have HG : Hid (getRq op b = .ok q.norm) := Lib.hid (by rw [← HQO.out]; exact rq_back (rq31_of HRB.out HQN.out) HR.out)
      have hb7 : n5 ≤ 140737488355328 := by have h1 := HW.out; have h2 := HS7.out.len; have h3 := HL.out; have h4 : lenW (.ok b : Wr) = b.length := rfl; omega
      go_upto_region 14 with fail
      clear c1' c2'
      have k0 := HX7.out.c 0 _ HV0.out
      have hQ7 := HX7.out.lt
      go_wp2_with fail
      refine (rget8_any (op := op) HS7.out hb7 hop (.ok q.norm) HG.out).mono ?_
      rintro e w8 ⟨o8, i8, s1, s2, s3, ev8, t8, al8, rfl, hq8, hb8⟩
      rw [show rqOf (.ok q.norm) = q.norm from rfl] at hq8 ⊢
      rw [show erOf (.ok q.norm) = 0 from rfl]
      obtain ⟨N, hN⟩ : ∃ N, N = q.norm := ⟨_, rfl⟩
      have hrl : RqL N := by rw [hN]; exact got_rqL HG.out
      rw [← hN] at hq8 HG HNM ⊢
      clear hN
      have HRL := Lib.hid hrl; clear hrl
      have HQ8 := Lib.hid hq8
      have HB8 := Lib.hid (HB7.out.trans (hb8.mono HB7.out.size))
      have HS8 := Lib.hid (HS7.out.after hb8)
      have HX8 := Lib.hid (goesBx.after HX7.out hb8)
      have HBP8 := Lib.hid (goesBx.after HBP7.out hb8)
      clear hq8 hb8 HX7 HBP7 HS7 k0 hQ7
      obtain ⟨ys, hys⟩ : ∃ ys, ys = rqV N o8 i8 s1 s2 s3 ev8 t8 al8 := ⟨_, rfl⟩
      have hyl := Lib.hid (show ys.length = 22 by rw [hys]; rfl)
      have HY1 : Hid (ys.all (·.oneCell') = true) := Lib.hid (by rw [hys]; rfl)
      have HY16 : Hid (ys[16]? = some (.int .i64 (if p0.timed then p0.time else 0))) := Lib.hid (by rw [hys, ← HTM.out, ← HNM.out]; rfl)
      rw [← hys]
      have HYS := Lib.hid hys; clear hys
      go_upto_region 15 with (first | (refine wpList_store_newB (g := w8.heap.size) (by rfl) 33 (.tmp 14) (.tmp 72) (by rfl) w8 33 _ ys.toArray (by rfl) ?g2 ?g3 ?g4 ?g5 ?g6 ?g7 ?g8; ((case g2 => rfl); (case g3 => rfl); (case g4 => rfl); (case g5 => (show _ = some ys.length; rw [hyl.out]; kernel_rfl)); (case g6 => (show _ = ys.length; rw [hyl.out]; rfl)); (case g7 => exact HY1.out); intro w9 hb9 hz9 hx9; have HY9 : Hid (Bx (fun b => b = w8.heap.size) w9 w8.heap.size ys) := Lib.hid hx9; have HB9 := Lib.hid (HB8.out.trans (hb9.mono HB8.out.size)); have HQ9 := Lib.hid (goesRq.after HQ8.out hb9); have HS9 := Lib.hid (HS8.out.after hb9); have HX9 := Lib.hid (goesBx.after HX8.out hb9); have HBP9 := Lib.hid (goesBx.after HBP8.out hb9); clear hb9 hz9 hx9 HX8 HBP8 HS8 HQ8)))
      have hz9 : w8.heap.size < w9.heap.size := HY9.out.lt
      have k0 := HX9.out.c 0 _ HV0.out
      have hQ9 := HX9.out.lt
      go_wp2_with fail
      refine (rGet8_any (op := op) HS9.out hb7 hop (.ok N) HG.out).mono ?_
      rintro e w10 ⟨o10, y1, y2, ev10, al10, rfl, hq10, hb10⟩
      rw [show rqOf (.ok N) = N from rfl] at hq10 ⊢
      rw [show erOf (.ok N) = 0 from rfl]
      have HF10 := Lib.hid hq10
      have HB10 := Lib.hid (HB9.out.trans (hb10.mono HB9.out.size))
      have HY10 := Lib.hid (goesBx.after HY9.out hb10)
      have HBP10 := Lib.hid (goesBx.after HBP9.out hb10)
      have HQ10 := Lib.hid (goesRq.after HQ9.out hb10)
      clear hq10 hb10 HX9 HBP9 HS9 k0 hQ9 HY9 HQ9
      obtain ⟨zs, hzs⟩ : ∃ zs, zs = rfV N o10 y1 y2 ev10 al10 := ⟨_, rfl⟩
      have hzl := Lib.hid (show zs.length = 22 by rw [hzs]; rfl)
      have HZ1 : Hid (zs.all (·.oneCell') = true) := Lib.hid (by rw [hzs]; rfl)
      rw [← hzs]
      have HZS := Lib.hid hzs; clear hzs
      go_upto_region 16 with (first | (refine wpList_store_newB (g := w10.heap.size) (by rfl) 48 (.tmp 16) (.tmp 79) (by rfl) w10 48 _ zs.toArray (by rfl) ?k2 ?k3 ?k4 ?k5 ?k6 ?k7 ?k8; ((case k2 => rfl); (case k3 => rfl); (case k4 => rfl); (case k5 => (show _ = some zs.length; rw [hzl.out]; kernel_rfl)); (case k6 => (show _ = zs.length; rw [hzl.out]; rfl)); (case k7 => exact HZ1.out); intro w11 hb11 hz11 hx11; have HZ11 : Hid (Bx (fun b => b = w10.heap.size) w11 w10.heap.size zs) := Lib.hid hx11; have HB11 := Lib.hid (HB10.out.trans (hb11.mono HB10.out.size)); have HQ11 := Lib.hid (goesRq.after HQ10.out hb11); have HF11 := Lib.hid (goesRf.after HF10.out hb11); have HY11 := Lib.hid (goesBx.after HY10.out hb11); have HBP11 := Lib.hid (goesBx.after HBP10.out hb11); clear hb11 hz11 hx11 HY10 HBP10 HQ10 HF10)))
      have hz11 := HB11.out.size
      have hz12 := HY11.out.lt
      have hz13 := HZ11.out.lt
      have hz14 := HBP11.out.lt
      have hdr : Below w11.heap.size w11 w11.drew := (Below.refl _ _).drew
      have HXA := Lib.hid (goesBx.after HY11.out hdr)
      have HXB := Lib.hid (goesBx.after HZ11.out hdr)
      have HXP := Lib.hid (goesBx.after HBP11.out hdr)
      have HQD := Lib.hid (goesRq.after HQ11.out hdr)
      have HFD := Lib.hid (goesRf.after HF11.out hdr)
      have P11 : Hid (V[11]? = some (.bool td)) := Lib.hid (by rw [HVE.out]; rfl)
      have P12 : Hid (V[12]? = some (.int .i64 tm)) := Lib.hid (by rw [HVE.out]; rfl)
      have hpt : p0.timed = td ∧ p0.time = tm := by rw [HPE.out]; exact ⟨rfl, rfl⟩
      rw [hpt.1, hpt.2] at HY16
      clear hdr hpt
      cases td with
      | true =>
        have Y16 : Hid (ys[16]? = some (.int .i64 tm)) := HY16
        clear HY16
        refine reg_start (by kernel_rfl) ?_
        (refine reg_take 0 (v := ?_) (by rfl) (by kernel_rfl) (by kernel_rfl) (by kernel_rfl) (by exact fun _ _ _ h => h) (by rfl) ?_ ?_; rotate_left; focus (intro w hSw; go_simp; try with_reducible rfl))
        simp only [Act.put, List.setIfInBounds_toArray, List.set_cons_zero, List.set_cons_succ]
        (refine reg_take 1 (v := ?_) (by rfl) (by kernel_rfl) (by kernel_rfl) (by kernel_rfl) (by exact fun _ _ _ h => h) (by rfl) ?_ ?_; rotate_left; focus (intro w hSw; go_simp; try with_reducible rfl))
        simp only [Act.put, List.setIfInBounds_toArray, List.set_cons_zero, List.set_cons_succ]
        (refine reg_take 2 (v := ?_) (by rfl) (by kernel_rfl) (by kernel_rfl) (by kernel_rfl) (by exact fun _ _ _ h => h) (by rfl) ?_ ?_; rotate_left; focus (intro w hSw; go_simp; try with_reducible rfl))
        simp only [Act.put, List.setIfInBounds_toArray, List.set_cons_zero, List.set_cons_succ]
        first | (refine reg_skip 3 (by rfl) (by kernel_rfl) (by kernel_rfl) (by kernel_rfl) (by exact fun _ _ _ h => h) (by rfl) ?_) | (refine reg_take 3 (v := ?_) (by rfl) (by kernel_rfl) (by kernel_rfl) (by kernel_rfl) (by exact fun _ _ _ h => h) (by rfl) ?_ ?_; rotate_left; focus (intro w hSw; go_simp; try with_reducible rfl))
        simp only [Act.put, List.setIfInBounds_toArray, List.set_cons_zero, List.set_cons_succ]
        first | (refine reg_skip 4 (by rfl) (by kernel_rfl) (by kernel_rfl) (by kernel_rfl) (by exact fun _ _ _ h => h) (by rfl) ?_) | (refine reg_take 4 (v := ?_) (by rfl) (by kernel_rfl) (by kernel_rfl) (by kernel_rfl) (by exact fun _ _ _ h => h) (by rfl) ?_ ?_; rotate_left; focus (intro w hSw; go_simp; try with_reducible rfl))
        simp only [Act.put, List.setIfInBounds_toArray, List.set_cons_zero, List.set_cons_succ]
        (refine reg_take 5 (v := ?_) (by rfl) (by kernel_rfl) (by kernel_rfl) (by kernel_rfl) (by exact fun _ _ _ h => h) (by rfl) ?_ ?_; rotate_left; focus (intro w hSw; go_simp; try with_reducible rfl))
        simp only [Act.put, List.setIfInBounds_toArray, List.set_cons_zero, List.set_cons_succ]
        (refine reg_take 6 (v := ?_) (by rfl) (by kernel_rfl) (by kernel_rfl) (by kernel_rfl) (by exact fun _ _ _ h => h) (by rfl) ?_ ?_; rotate_left; focus (intro w hSw; go_simp; try with_reducible rfl))
        simp only [Act.put, List.setIfInBounds_toArray, List.set_cons_zero, List.set_cons_succ]
        refine reg_two 7 9 (by kernel_rfl) (by rfl) (by rfl) (fun K hK => ?_) (fun K hK => ?_)
        focus
          refine step_loadB HXA.out (by rfl) 33 _ (by rfl) (by rfl) _ Try.underlying33 rfl (by rw [hyl.out]; kernel_rfl) ?_
          refine hK.out _ _ ((by unfold Aft; exact Below.refl _ _)) ?_
          clear hK K
          try simp only [Act.put, List.setIfInBounds_toArray, List.set_cons_zero, List.set_cons_succ]
          refine reg_two 8 9 (by kernel_rfl) (by rfl) (by rfl) (fun K hK => ?_) (fun K hK => ?_)
          focus
            go_simp
            go_at_call 13; have hof := requestOf_any HQD.out HRL.out; rw [← HYS.out] at hof; refine hof.mono ?_; clear hof; rintro e w12 ⟨o12, z1, z2, ev12, al12, rfl, hq12, hb12⟩
            refine hK.out _ _ (hb12) ?_
            clear hK K
            try simp only [Act.put, List.setIfInBounds_toArray, List.set_cons_zero, List.set_cons_succ]
            refine reg_call 9 (by kernel_rfl) (by rfl) (fun K hK => ?_)
            first | (refine step_loadB HXB.out (by rfl) 48 _ (by rfl) (by rfl) _ Try.underlying48 rfl (by rw [hzl.out]; kernel_rfl) ?_) | (refine step_loadB (goesBx.after HXB.out hb12) (by rfl) 48 _ (by rfl) (by rfl) _ Try.underlying48 rfl (by rw [hzl.out]; kernel_rfl) ?_)
            refine hK.out _ _ ((by unfold Aft; exact Below.refl _ _)) ?_
            clear hK K
            try simp only [Act.put, List.setIfInBounds_toArray, List.set_cons_zero, List.set_cons_succ]
            refine reg_call 10 (by kernel_rfl) (by rfl) (fun K hK => ?_)
            go_simp
            go_at_call 16; have hsm := same8_any hq12 (goesRf.after HFD.out hb12); rw [← HZS.out] at hsm; refine hsm.mono ?_; clear hsm; rintro e w13 ⟨rfl, hb13⟩; have e16 := Aft.each (kcell hb13 (kcell hb12 (HXA.out.c 16 _ Y16.out))); have e11 := Aft.each (kcell hb13 (kcell hb12 (HXP.out.c 11 _ P11.out))); have e12 := Aft.each (kcell hb13 (kcell hb12 (HXP.out.c 12 _ P12.out)))
            refine hK.out _ _ (hb13) ?_
            clear hK K
            try simp only [Act.put, List.setIfInBounds_toArray, List.set_cons_zero, List.set_cons_succ]
            (refine reg_take 11 (v := ?_) (by rfl) (by kernel_rfl) (by kernel_rfl) (by kernel_rfl) (by exact fun _ _ _ h => h) (by rfl) ?_ ?_; rotate_left; focus (intro w hSw; go_simp; try with_reducible rfl))
            simp only [Act.put, List.setIfInBounds_toArray, List.set_cons_zero, List.set_cons_succ]
            (refine reg_take 12 (v := ?_) (by rfl) (by kernel_rfl) (by kernel_rfl) (by kernel_rfl) (by exact fun _ _ _ h => h) (by rfl) ?_ ?_; rotate_left; focus (intro w hSw; go_simp; try with_reducible rfl))
            simp only [Act.put, List.setIfInBounds_toArray, List.set_cons_zero, List.set_cons_succ]
            first | (refine reg_skip 13 (by rfl) (by kernel_rfl) (by kernel_rfl) (by kernel_rfl) (by exact fun _ _ _ h => h) (by rfl) ?_) | (refine reg_take 13 (v := ?_) (by rfl) (by kernel_rfl) (by kernel_rfl) (by kernel_rfl) (by exact fun _ _ _ h => h) (by rfl) ?_ ?_; rotate_left; focus (intro w hSw; go_simp; try with_reducible rfl))
            simp only [Act.put, List.setIfInBounds_toArray, List.set_cons_zero, List.set_cons_succ]
            first | (refine reg_skip 14 (by rfl) (by kernel_rfl) (by kernel_rfl) (by kernel_rfl) (by exact fun _ _ _ h => h) (by rfl) ?_) | (refine reg_take 14 (v := ?_) (by rfl) (by kernel_rfl) (by kernel_rfl) (by kernel_rfl) (by exact fun _ _ _ h => h) (by rfl) ?_ ?_; rotate_left; focus (intro w hSw; go_simp; try with_reducible rfl))
            simp only [Act.put, List.setIfInBounds_toArray, List.set_cons_zero, List.set_cons_succ]
            first | (refine reg_skip 15 (by rfl) (by kernel_rfl) (by kernel_rfl) (by kernel_rfl) (by exact fun _ _ _ h => h) (by rfl) ?_) | (refine reg_take 15 (v := ?_) (by rfl) (by kernel_rfl) (by kernel_rfl) (by kernel_rfl) (by exact fun _ _ _ h => h) (by rfl) ?_ ?_; rotate_left; focus (intro w hSw; go_simp; try with_reducible rfl))
            simp only [Act.put, List.setIfInBounds_toArray, List.set_cons_zero, List.set_cons_succ]
            first | (refine reg_skip 16 (by rfl) (by kernel_rfl) (by kernel_rfl) (by kernel_rfl) (by exact fun _ _ _ h => h) (by rfl) ?_) | (refine reg_take 16 (v := ?_) (by rfl) (by kernel_rfl) (by kernel_rfl) (by kernel_rfl) (by exact fun _ _ _ h => h) (by rfl) ?_ ?_; rotate_left; focus (intro w hSw; go_simp; try with_reducible rfl))
            simp only [Act.put, List.setIfInBounds_toArray, List.set_cons_zero, List.set_cons_succ]
            first | (refine reg_skip 17 (by rfl) (by kernel_rfl) (by kernel_rfl) (by kernel_rfl) (by exact fun _ _ _ h => h) (by rfl) ?_) | (refine reg_take 17 (v := ?_) (by rfl) (by kernel_rfl) (by kernel_rfl) (by kernel_rfl) (by exact fun _ _ _ h => h) (by rfl) ?_ ?_; rotate_left; focus (intro w hSw; go_simp; try with_reducible rfl))
            simp only [Act.put, List.setIfInBounds_toArray, List.set_cons_zero, List.set_cons_succ]
            first | (refine reg_skip 18 (by rfl) (by kernel_rfl) (by kernel_rfl) (by kernel_rfl) (by exact fun _ _ _ h => h) (by rfl) ?_) | (refine reg_take 18 (v := ?_) (by rfl) (by kernel_rfl) (by kernel_rfl) (by kernel_rfl) (by exact fun _ _ _ h => h) (by rfl) ?_ ?_; rotate_left; focus (intro w hSw; go_simp; try with_reducible rfl))
            simp only [Act.put, List.setIfInBounds_toArray, List.set_cons_zero, List.set_cons_succ]
            first | (refine reg_skip 19 (by rfl) (by kernel_rfl) (by kernel_rfl) (by kernel_rfl) (by exact fun _ _ _ h => h) (by rfl) ?_) | (refine reg_take 19 (v := ?_) (by rfl) (by kernel_rfl) (by kernel_rfl) (by kernel_rfl) (by exact fun _ _ _ h => h) (by rfl) ?_ ?_; rotate_left; focus (intro w hSw; go_simp; try with_reducible rfl))
            simp only [Act.put, List.setIfInBounds_toArray, List.set_cons_zero, List.set_cons_succ]
            first | (refine reg_skip 20 (by rfl) (by kernel_rfl) (by kernel_rfl) (by kernel_rfl) (by exact fun _ _ _ h => h) (by rfl) ?_) | (refine reg_take 20 (v := ?_) (by rfl) (by kernel_rfl) (by kernel_rfl) (by kernel_rfl) (by exact fun _ _ _ h => h) (by rfl) ?_ ?_; rotate_left; focus (intro w hSw; go_simp; try with_reducible rfl))
            simp only [Act.put, List.setIfInBounds_toArray, List.set_cons_zero, List.set_cons_succ]
            first | (refine reg_skip 21 (by rfl) (by kernel_rfl) (by kernel_rfl) (by kernel_rfl) (by exact fun _ _ _ h => h) (by rfl) ?_) | (refine reg_take 21 (v := ?_) (by rfl) (by kernel_rfl) (by kernel_rfl) (by kernel_rfl) (by exact fun _ _ _ h => h) (by rfl) ?_ ?_; rotate_left; focus (intro w hSw; go_simp; try with_reducible rfl))
            simp only [Act.put, List.setIfInBounds_toArray, List.set_cons_zero, List.set_cons_succ]
            first | (refine reg_skip 22 (by rfl) (by kernel_rfl) (by kernel_rfl) (by kernel_rfl) (by exact fun _ _ _ h => h) (by rfl) ?_) | (refine reg_take 22 (v := ?_) (by rfl) (by kernel_rfl) (by kernel_rfl) (by kernel_rfl) (by exact fun _ _ _ h => h) (by rfl) ?_ ?_; rotate_left; focus (intro w hSw; go_simp; try with_reducible rfl))
            simp only [Act.put, List.setIfInBounds_toArray, List.set_cons_zero, List.set_cons_succ]
            first | (refine reg_skip 23 (by rfl) (by kernel_rfl) (by kernel_rfl) (by kernel_rfl) (by exact fun _ _ _ h => h) (by rfl) ?_) | (refine reg_take 23 (v := ?_) (by rfl) (by kernel_rfl) (by kernel_rfl) (by kernel_rfl) (by exact fun _ _ _ h => h) (by rfl) ?_ ?_; rotate_left; focus (intro w hSw; go_simp; try with_reducible rfl))
            simp only [Act.put, List.setIfInBounds_toArray, List.set_cons_zero, List.set_cons_succ]
            first | (refine reg_skip 24 (by rfl) (by kernel_rfl) (by kernel_rfl) (by kernel_rfl) (by exact fun _ _ _ h => h) (by rfl) ?_) | (refine reg_take 24 (v := ?_) (by rfl) (by kernel_rfl) (by kernel_rfl) (by kernel_rfl) (by exact fun _ _ _ h => h) (by rfl) ?_ ?_; rotate_left; focus (intro w hSw; go_simp; try with_reducible rfl))
            simp only [Act.put, List.setIfInBounds_toArray, List.set_cons_zero, List.set_cons_succ]
            first | (refine reg_skip 25 (by rfl) (by kernel_rfl) (by kernel_rfl) (by kernel_rfl) (by exact fun _ _ _ h => h) (by rfl) ?_) | (refine reg_take 25 (v := ?_) (by rfl) (by kernel_rfl) (by kernel_rfl) (by kernel_rfl) (by exact fun _ _ _ h => h) (by rfl) ?_ ?_; rotate_left; focus (intro w hSw; go_simp; try with_reducible rfl))
            simp only [Act.put, List.setIfInBounds_toArray, List.set_cons_zero, List.set_cons_succ]
            first | (refine reg_skip 26 (by rfl) (by kernel_rfl) (by kernel_rfl) (by kernel_rfl) (by exact fun _ _ _ h => h) (by rfl) ?_) | (refine reg_take 26 (v := ?_) (by rfl) (by kernel_rfl) (by kernel_rfl) (by kernel_rfl) (by exact fun _ _ _ h => h) (by rfl) ?_ ?_; rotate_left; focus (intro w hSw; go_simp; try with_reducible rfl))
            simp only [Act.put, List.setIfInBounds_toArray, List.set_cons_zero, List.set_cons_succ]
            (refine reg_take 27 (v := ?_) (by rfl) (by kernel_rfl) (by kernel_rfl) (by kernel_rfl) (by exact fun _ _ _ h => h) (by rfl) ?_ ?_; rotate_left; focus (intro w hSw; go_simp; try with_reducible rfl))
            simp only [Act.put, List.setIfInBounds_toArray, List.set_cons_zero, List.set_cons_succ]
            (refine reg_take 28 (v := ?_) (by rfl) (by kernel_rfl) (by kernel_rfl) (by kernel_rfl) (by exact fun _ _ _ h => h) (by rfl) ?_ ?_; rotate_left; focus (intro w hSw; go_simp; try with_reducible rfl))
            simp only [Act.put, List.setIfInBounds_toArray, List.set_cons_zero, List.set_cons_succ]
            refine wpAnyH_done (by kernel_rfl) ?_ _
          rotate_left 1
          focus
            first | (refine step_loadB HXB.out (by rfl) 48 _ (by rfl) (by rfl) _ Try.underlying48 rfl (by rw [hzl.out]; kernel_rfl) ?_) | (refine step_loadB (goesBx.after HXB.out hb12) (by rfl) 48 _ (by rfl) (by rfl) _ Try.underlying48 rfl (by rw [hzl.out]; kernel_rfl) ?_)
            refine hK.out _ _ ((by unfold Aft; exact Below.refl _ _)) ?_
            clear hK K
            try simp only [Act.put, List.setIfInBounds_toArray, List.set_cons_zero, List.set_cons_succ]
            refine reg_call 8 (by kernel_rfl) (by rfl) (fun K hK => ?_)
            go_simp
            go_at_call 13; have hof := requestOf_any HQD.out HRL.out; rw [← HYS.out] at hof; refine hof.mono ?_; clear hof; rintro e w12 ⟨o12, z1, z2, ev12, al12, rfl, hq12, hb12⟩
            refine hK.out _ _ (hb12) ?_
            clear hK K
            try simp only [Act.put, List.setIfInBounds_toArray, List.set_cons_zero, List.set_cons_succ]
            refine reg_call 10 (by kernel_rfl) (by rfl) (fun K hK => ?_)
            go_simp
            go_at_call 16; have hsm := same8_any hq12 (goesRf.after HFD.out hb12); rw [← HZS.out] at hsm; refine hsm.mono ?_; clear hsm; rintro e w13 ⟨rfl, hb13⟩; have e16 := Aft.each (kcell hb13 (kcell hb12 (HXA.out.c 16 _ Y16.out))); have e11 := Aft.each (kcell hb13 (kcell hb12 (HXP.out.c 11 _ P11.out))); have e12 := Aft.each (kcell hb13 (kcell hb12 (HXP.out.c 12 _ P12.out)))
            refine hK.out _ _ (hb13) ?_
            clear hK K
            try simp only [Act.put, List.setIfInBounds_toArray, List.set_cons_zero, List.set_cons_succ]
            (refine reg_take 11 (v := ?_) (by rfl) (by kernel_rfl) (by kernel_rfl) (by kernel_rfl) (by exact fun _ _ _ h => h) (by rfl) ?_ ?_; rotate_left; focus (intro w hSw; go_simp; try with_reducible rfl))
            simp only [Act.put, List.setIfInBounds_toArray, List.set_cons_zero, List.set_cons_succ]
            (refine reg_take 12 (v := ?_) (by rfl) (by kernel_rfl) (by kernel_rfl) (by kernel_rfl) (by exact fun _ _ _ h => h) (by rfl) ?_ ?_; rotate_left; focus (intro w hSw; go_simp; try with_reducible rfl))
            simp only [Act.put, List.setIfInBounds_toArray, List.set_cons_zero, List.set_cons_succ]
            first | (refine reg_skip 13 (by rfl) (by kernel_rfl) (by kernel_rfl) (by kernel_rfl) (by exact fun _ _ _ h => h) (by rfl) ?_) | (refine reg_take 13 (v := ?_) (by rfl) (by kernel_rfl) (by kernel_rfl) (by kernel_rfl) (by exact fun _ _ _ h => h) (by rfl) ?_ ?_; rotate_left; focus (intro w hSw; go_simp; try with_reducible rfl))
            simp only [Act.put, List.setIfInBounds_toArray, List.set_cons_zero, List.set_cons_succ]
            first | (refine reg_skip 14 (by rfl) (by kernel_rfl) (by kernel_rfl) (by kernel_rfl) (by exact fun _ _ _ h => h) (by rfl) ?_) | (refine reg_take 14 (v := ?_) (by rfl) (by kernel_rfl) (by kernel_rfl) (by kernel_rfl) (by exact fun _ _ _ h => h) (by rfl) ?_ ?_; rotate_left; focus (intro w hSw; go_simp; try with_reducible rfl))
            simp only [Act.put, List.setIfInBounds_toArray, List.set_cons_zero, List.set_cons_succ]
            first | (refine reg_skip 15 (by rfl) (by kernel_rfl) (by kernel_rfl) (by kernel_rfl) (by exact fun _ _ _ h => h) (by rfl) ?_) | (refine reg_take 15 (v := ?_) (by rfl) (by kernel_rfl) (by kernel_rfl) (by kernel_rfl) (by exact fun _ _ _ h => h) (by rfl) ?_ ?_; rotate_left; focus (intro w hSw; go_simp; try with_reducible rfl))
            simp only [Act.put, List.setIfInBounds_toArray, List.set_cons_zero, List.set_cons_succ]
            first | (refine reg_skip 16 (by rfl) (by kernel_rfl) (by kernel_rfl) (by kernel_rfl) (by exact fun _ _ _ h => h) (by rfl) ?_) | (refine reg_take 16 (v := ?_) (by rfl) (by kernel_rfl) (by kernel_rfl) (by kernel_rfl) (by exact fun _ _ _ h => h) (by rfl) ?_ ?_; rotate_left; focus (intro w hSw; go_simp; try with_reducible rfl))
            simp only [Act.put, List.setIfInBounds_toArray, List.set_cons_zero, List.set_cons_succ]
            first | (refine reg_skip 17 (by rfl) (by kernel_rfl) (by kernel_rfl) (by kernel_rfl) (by exact fun _ _ _ h => h) (by rfl) ?_) | (refine reg_take 17 (v := ?_) (by rfl) (by kernel_rfl) (by kernel_rfl) (by kernel_rfl) (by exact fun _ _ _ h => h) (by rfl) ?_ ?_; rotate_left; focus (intro w hSw; go_simp; try with_reducible rfl))
            simp only [Act.put, List.setIfInBounds_toArray, List.set_cons_zero, List.set_cons_succ]
            first | (refine reg_skip 18 (by rfl) (by kernel_rfl) (by kernel_rfl) (by kernel_rfl) (by exact fun _ _ _ h => h) (by rfl) ?_) | (refine reg_take 18 (v := ?_) (by rfl) (by kernel_rfl) (by kernel_rfl) (by kernel_rfl) (by exact fun _ _ _ h => h) (by rfl) ?_ ?_; rotate_left; focus (intro w hSw; go_simp; try with_reducible rfl))
            simp only [Act.put, List.setIfInBounds_toArray, List.set_cons_zero, List.set_cons_succ]
            first | (refine reg_skip 19 (by rfl) (by kernel_rfl) (by kernel_rfl) (by kernel_rfl) (by exact fun _ _ _ h => h) (by rfl) ?_) | (refine reg_take 19 (v := ?_) (by rfl) (by kernel_rfl) (by kernel_rfl) (by kernel_rfl) (by exact fun _ _ _ h => h) (by rfl) ?_ ?_; rotate_left; focus (intro w hSw; go_simp; try with_reducible rfl))
            simp only [Act.put, List.setIfInBounds_toArray, List.set_cons_zero, List.set_cons_succ]
            first | (refine reg_skip 20 (by rfl) (by kernel_rfl) (by kernel_rfl) (by kernel_rfl) (by exact fun _ _ _ h => h) (by rfl) ?_) | (refine reg_take 20 (v := ?_) (by rfl) (by kernel_rfl) (by kernel_rfl) (by kernel_rfl) (by exact fun _ _ _ h => h) (by rfl) ?_ ?_; rotate_left; focus (intro w hSw; go_simp; try with_reducible rfl))
            simp only [Act.put, List.setIfInBounds_toArray, List.set_cons_zero, List.set_cons_succ]
            first | (refine reg_skip 21 (by rfl) (by kernel_rfl) (by kernel_rfl) (by kernel_rfl) (by exact fun _ _ _ h => h) (by rfl) ?_) | (refine reg_take 21 (v := ?_) (by rfl) (by kernel_rfl) (by kernel_rfl) (by kernel_rfl) (by exact fun _ _ _ h => h) (by rfl) ?_ ?_; rotate_left; focus (intro w hSw; go_simp; try with_reducible rfl))
            simp only [Act.put, List.setIfInBounds_toArray, List.set_cons_zero, List.set_cons_succ]
            first | (refine reg_skip 22 (by rfl) (by kernel_rfl) (by kernel_rfl) (by kernel_rfl) (by exact fun _ _ _ h => h) (by rfl) ?_) | (refine reg_take 22 (v := ?_) (by rfl) (by kernel_rfl) (by kernel_rfl) (by kernel_rfl) (by exact fun _ _ _ h => h) (by rfl) ?_ ?_; rotate_left; focus (intro w hSw; go_simp; try with_reducible rfl))
            simp only [Act.put, List.setIfInBounds_toArray, List.set_cons_zero, List.set_cons_succ]
            first | (refine reg_skip 23 (by rfl) (by kernel_rfl) (by kernel_rfl) (by kernel_rfl) (by exact fun _ _ _ h => h) (by rfl) ?_) | (refine reg_take 23 (v := ?_) (by rfl) (by kernel_rfl) (by kernel_rfl) (by kernel_rfl) (by exact fun _ _ _ h => h) (by rfl) ?_ ?_; rotate_left; focus (intro w hSw; go_simp; try with_reducible rfl))
            simp only [Act.put, List.setIfInBounds_toArray, List.set_cons_zero, List.set_cons_succ]
            first | (refine reg_skip 24 (by rfl) (by kernel_rfl) (by kernel_rfl) (by kernel_rfl) (by exact fun _ _ _ h => h) (by rfl) ?_) | (refine reg_take 24 (v := ?_) (by rfl) (by kernel_rfl) (by kernel_rfl) (by kernel_rfl) (by exact fun _ _ _ h => h) (by rfl) ?_ ?_; rotate_left; focus (intro w hSw; go_simp; try with_reducible rfl))
            simp only [Act.put, List.setIfInBounds_toArray, List.set_cons_zero, List.set_cons_succ]
            first | (refine reg_skip 25 (by rfl) (by kernel_rfl) (by kernel_rfl) (by kernel_rfl) (by exact fun _ _ _ h => h) (by rfl) ?_) | (refine reg_take 25 (v := ?_) (by rfl) (by kernel_rfl) (by kernel_rfl) (by kernel_rfl) (by exact fun _ _ _ h => h) (by rfl) ?_ ?_; rotate_left; focus (intro w hSw; go_simp; try with_reducible rfl))
            simp only [Act.put, List.setIfInBounds_toArray, List.set_cons_zero, List.set_cons_succ]
            first | (refine reg_skip 26 (by rfl) (by kernel_rfl) (by kernel_rfl) (by kernel_rfl) (by exact fun _ _ _ h => h) (by rfl) ?_) | (refine reg_take 26 (v := ?_) (by rfl) (by kernel_rfl) (by kernel_rfl) (by kernel_rfl) (by exact fun _ _ _ h => h) (by rfl) ?_ ?_; rotate_left; focus (intro w hSw; go_simp; try with_reducible rfl))
            simp only [Act.put, List.setIfInBounds_toArray, List.set_cons_zero, List.set_cons_succ]
            (refine reg_take 27 (v := ?_) (by rfl) (by kernel_rfl) (by kernel_rfl) (by kernel_rfl) (by exact fun _ _ _ h => h) (by rfl) ?_ ?_; rotate_left; focus (intro w hSw; go_simp; try with_reducible rfl))
            simp only [Act.put, List.setIfInBounds_toArray, List.set_cons_zero, List.set_cons_succ]
            (refine reg_take 28 (v := ?_) (by rfl) (by kernel_rfl) (by kernel_rfl) (by kernel_rfl) (by exact fun _ _ _ h => h) (by rfl) ?_ ?_; rotate_left; focus (intro w hSw; go_simp; try with_reducible rfl))
            simp only [Act.put, List.setIfInBounds_toArray, List.set_cons_zero, List.set_cons_succ]
            refine wpAnyH_done (by kernel_rfl) ?_ _
        rotate_left 2
        focus
          first | (refine step_loadB HXB.out (by rfl) 48 _ (by rfl) (by rfl) _ Try.underlying48 rfl (by rw [hzl.out]; kernel_rfl) ?_) | (refine step_loadB (goesBx.after HXB.out hb12) (by rfl) 48 _ (by rfl) (by rfl) _ Try.underlying48 rfl (by rw [hzl.out]; kernel_rfl) ?_)
          refine hK.out _ _ ((by unfold Aft; exact Below.refl _ _)) ?_
          clear hK K
          try simp only [Act.put, List.setIfInBounds_toArray, List.set_cons_zero, List.set_cons_succ]
          refine reg_call 7 (by kernel_rfl) (by rfl) (fun K hK => ?_)
          refine step_loadB HXA.out (by rfl) 33 _ (by rfl) (by rfl) _ Try.underlying33 rfl (by rw [hyl.out]; kernel_rfl) ?_
          refine hK.out _ _ ((by unfold Aft; exact Below.refl _ _)) ?_
          clear hK K
          try simp only [Act.put, List.setIfInBounds_toArray, List.set_cons_zero, List.set_cons_succ]
          refine reg_call 8 (by kernel_rfl) (by rfl) (fun K hK => ?_)
          go_simp
          go_at_call 13; have hof := requestOf_any HQD.out HRL.out; rw [← HYS.out] at hof; refine hof.mono ?_; clear hof; rintro e w12 ⟨o12, z1, z2, ev12, al12, rfl, hq12, hb12⟩
          refine hK.out _ _ (hb12) ?_
          clear hK K
          try simp only [Act.put, List.setIfInBounds_toArray, List.set_cons_zero, List.set_cons_succ]
          refine reg_call 10 (by kernel_rfl) (by rfl) (fun K hK => ?_)
          go_simp
          go_at_call 16; have hsm := same8_any hq12 (goesRf.after HFD.out hb12); rw [← HZS.out] at hsm; refine hsm.mono ?_; clear hsm; rintro e w13 ⟨rfl, hb13⟩; have e16 := Aft.each (kcell hb13 (kcell hb12 (HXA.out.c 16 _ Y16.out))); have e11 := Aft.each (kcell hb13 (kcell hb12 (HXP.out.c 11 _ P11.out))); have e12 := Aft.each (kcell hb13 (kcell hb12 (HXP.out.c 12 _ P12.out)))
          refine hK.out _ _ (hb13) ?_
          clear hK K
          try simp only [Act.put, List.setIfInBounds_toArray, List.set_cons_zero, List.set_cons_succ]
          (refine reg_take 11 (v := ?_) (by rfl) (by kernel_rfl) (by kernel_rfl) (by kernel_rfl) (by exact fun _ _ _ h => h) (by rfl) ?_ ?_; rotate_left; focus (intro w hSw; go_simp; try with_reducible rfl))
          simp only [Act.put, List.setIfInBounds_toArray, List.set_cons_zero, List.set_cons_succ]
          (refine reg_take 12 (v := ?_) (by rfl) (by kernel_rfl) (by kernel_rfl) (by kernel_rfl) (by exact fun _ _ _ h => h) (by rfl) ?_ ?_; rotate_left; focus (intro w hSw; go_simp; try with_reducible rfl))
          simp only [Act.put, List.setIfInBounds_toArray, List.set_cons_zero, List.set_cons_succ]
          first | (refine reg_skip 13 (by rfl) (by kernel_rfl) (by kernel_rfl) (by kernel_rfl) (by exact fun _ _ _ h => h) (by rfl) ?_) | (refine reg_take 13 (v := ?_) (by rfl) (by kernel_rfl) (by kernel_rfl) (by kernel_rfl) (by exact fun _ _ _ h => h) (by rfl) ?_ ?_; rotate_left; focus (intro w hSw; go_simp; try with_reducible rfl))
          simp only [Act.put, List.setIfInBounds_toArray, List.set_cons_zero, List.set_cons_succ]
          first | (refine reg_skip 14 (by rfl) (by kernel_rfl) (by kernel_rfl) (by kernel_rfl) (by exact fun _ _ _ h => h) (by rfl) ?_) | (refine reg_take 14 (v := ?_) (by rfl) (by kernel_rfl) (by kernel_rfl) (by kernel_rfl) (by exact fun _ _ _ h => h) (by rfl) ?_ ?_; rotate_left; focus (intro w hSw; go_simp; try with_reducible rfl))
          simp only [Act.put, List.setIfInBounds_toArray, List.set_cons_zero, List.set_cons_succ]
          first | (refine reg_skip 15 (by rfl) (by kernel_rfl) (by kernel_rfl) (by kernel_rfl) (by exact fun _ _ _ h => h) (by rfl) ?_) | (refine reg_take 15 (v := ?_) (by rfl) (by kernel_rfl) (by kernel_rfl) (by kernel_rfl) (by exact fun _ _ _ h => h) (by rfl) ?_ ?_; rotate_left; focus (intro w hSw; go_simp; try with_reducible rfl))
          simp only [Act.put, List.setIfInBounds_toArray, List.set_cons_zero, List.set_cons_succ]
          first | (refine reg_skip 16 (by rfl) (by kernel_rfl) (by kernel_rfl) (by kernel_rfl) (by exact fun _ _ _ h => h) (by rfl) ?_) | (refine reg_take 16 (v := ?_) (by rfl) (by kernel_rfl) (by kernel_rfl) (by kernel_rfl) (by exact fun _ _ _ h => h) (by rfl) ?_ ?_; rotate_left; focus (intro w hSw; go_simp; try with_reducible rfl))
          simp only [Act.put, List.setIfInBounds_toArray, List.set_cons_zero, List.set_cons_succ]
          first | (refine reg_skip 17 (by rfl) (by kernel_rfl) (by kernel_rfl) (by kernel_rfl) (by exact fun _ _ _ h => h) (by rfl) ?_) | (refine reg_take 17 (v := ?_) (by rfl) (by kernel_rfl) (by kernel_rfl) (by kernel_rfl) (by exact fun _ _ _ h => h) (by rfl) ?_ ?_; rotate_left; focus (intro w hSw; go_simp; try with_reducible rfl))
          simp only [Act.put, List.setIfInBounds_toArray, List.set_cons_zero, List.set_cons_succ]
          first | (refine reg_skip 18 (by rfl) (by kernel_rfl) (by kernel_rfl) (by kernel_rfl) (by exact fun _ _ _ h => h) (by rfl) ?_) | (refine reg_take 18 (v := ?_) (by rfl) (by kernel_rfl) (by kernel_rfl) (by kernel_rfl) (by exact fun _ _ _ h => h) (by rfl) ?_ ?_; rotate_left; focus (intro w hSw; go_simp; try with_reducible rfl))
          simp only [Act.put, List.setIfInBounds_toArray, List.set_cons_zero, List.set_cons_succ]
          first | (refine reg_skip 19 (by rfl) (by kernel_rfl) (by kernel_rfl) (by kernel_rfl) (by exact fun _ _ _ h => h) (by rfl) ?_) | (refine reg_take 19 (v := ?_) (by rfl) (by kernel_rfl) (by kernel_rfl) (by kernel_rfl) (by exact fun _ _ _ h => h) (by rfl) ?_ ?_; rotate_left; focus (intro w hSw; go_simp; try with_reducible rfl))
          simp only [Act.put, List.setIfInBounds_toArray, List.set_cons_zero, List.set_cons_succ]
          first | (refine reg_skip 20 (by rfl) (by kernel_rfl) (by kernel_rfl) (by kernel_rfl) (by exact fun _ _ _ h => h) (by rfl) ?_) | (refine reg_take 20 (v := ?_) (by rfl) (by kernel_rfl) (by kernel_rfl) (by kernel_rfl) (by exact fun _ _ _ h => h) (by rfl) ?_ ?_; rotate_left; focus (intro w hSw; go_simp; try with_reducible rfl))
          simp only [Act.put, List.setIfInBounds_toArray, List.set_cons_zero, List.set_cons_succ]
          first | (refine reg_skip 21 (by rfl) (by kernel_rfl) (by kernel_rfl) (by kernel_rfl) (by exact fun _ _ _ h => h) (by rfl) ?_) | (refine reg_take 21 (v := ?_) (by rfl) (by kernel_rfl) (by kernel_rfl) (by kernel_rfl) (by exact fun _ _ _ h => h) (by rfl) ?_ ?_; rotate_left; focus (intro w hSw; go_simp; try with_reducible rfl))
          simp only [Act.put, List.setIfInBounds_toArray, List.set_cons_zero, List.set_cons_succ]
          first | (refine reg_skip 22 (by rfl) (by kernel_rfl) (by kernel_rfl) (by kernel_rfl) (by exact fun _ _ _ h => h) (by rfl) ?_) | (refine reg_take 22 (v := ?_) (by rfl) (by kernel_rfl) (by kernel_rfl) (by kernel_rfl) (by exact fun _ _ _ h => h) (by rfl) ?_ ?_; rotate_left; focus (intro w hSw; go_simp; try with_reducible rfl))
          simp only [Act.put, List.setIfInBounds_toArray, List.set_cons_zero, List.set_cons_succ]
          first | (refine reg_skip 23 (by rfl) (by kernel_rfl) (by kernel_rfl) (by kernel_rfl) (by exact fun _ _ _ h => h) (by rfl) ?_) | (refine reg_take 23 (v := ?_) (by rfl) (by kernel_rfl) (by kernel_rfl) (by kernel_rfl) (by exact fun _ _ _ h => h) (by rfl) ?_ ?_; rotate_left; focus (intro w hSw; go_simp; try with_reducible rfl))
          simp only [Act.put, List.setIfInBounds_toArray, List.set_cons_zero, List.set_cons_succ]
          first | (refine reg_skip 24 (by rfl) (by kernel_rfl) (by kernel_rfl) (by kernel_rfl) (by exact fun _ _ _ h => h) (by rfl) ?_) | (refine reg_take 24 (v := ?_) (by rfl) (by kernel_rfl) (by kernel_rfl) (by kernel_rfl) (by exact fun _ _ _ h => h) (by rfl) ?_ ?_; rotate_left; focus (intro w hSw; go_simp; try with_reducible rfl))
          simp only [Act.put, List.setIfInBounds_toArray, List.set_cons_zero, List.set_cons_succ]
          first | (refine reg_skip 25 (by rfl) (by kernel_rfl) (by kernel_rfl) (by kernel_rfl) (by exact fun _ _ _ h => h) (by rfl) ?_) | (refine reg_take 25 (v := ?_) (by rfl) (by kernel_rfl) (by kernel_rfl) (by kernel_rfl) (by exact fun _ _ _ h => h) (by rfl) ?_ ?_; rotate_left; focus (intro w hSw; go_simp; try with_reducible rfl))
          simp only [Act.put, List.setIfInBounds_toArray, List.set_cons_zero, List.set_cons_succ]
          first | (refine reg_skip 26 (by rfl) (by kernel_rfl) (by kernel_rfl) (by kernel_rfl) (by exact fun _ _ _ h => h) (by rfl) ?_) | (refine reg_take 26 (v := ?_) (by rfl) (by kernel_rfl) (by kernel_rfl) (by kernel_rfl) (by exact fun _ _ _ h => h) (by rfl) ?_ ?_; rotate_left; focus (intro w hSw; go_simp; try with_reducible rfl))
          simp only [Act.put, List.setIfInBounds_toArray, List.set_cons_zero, List.set_cons_succ]
          (refine reg_take 27 (v := ?_) (by rfl) (by kernel_rfl) (by kernel_rfl) (by kernel_rfl) (by exact fun _ _ _ h => h) (by rfl) ?_ ?_; rotate_left; focus (intro w hSw; go_simp; try with_reducible rfl))
          simp only [Act.put, List.setIfInBounds_toArray, List.set_cons_zero, List.set_cons_succ]
          (refine reg_take 28 (v := ?_) (by rfl) (by kernel_rfl) (by kernel_rfl) (by kernel_rfl) (by exact fun _ _ _ h => h) (by rfl) ?_ ?_; rotate_left; focus (intro w hSw; go_simp; try with_reducible rfl))
          simp only [Act.put, List.setIfInBounds_toArray, List.set_cons_zero, List.set_cons_succ]
          refine wpAnyH_done (by kernel_rfl) ?_ _
        all_goals
          have HB13 : Hid (Below w.heap.size w w13) := Lib.hid (HB11.out.trans (((Below.refl w11.heap.size w11).drew.trans (hb12.trans (hb13.mono hb12.size))).mono hz11))
          clear hb12 hb13 e16 e11 e12
          go_wp2_with fail
          go_ret
          exact ⟨by simp, HB13.out⟩
      | false =>
        have Y16 : Hid (ys[16]? = some (.int .i64 0)) := HY16
        clear HY16
        by_cases h0 : tm = 0
        · rw [h0] at P12
          clear h0
          refine reg_start (by kernel_rfl) ?_
          (refine reg_take 0 (v := ?_) (by rfl) (by kernel_rfl) (by kernel_rfl) (by kernel_rfl) (by exact fun _ _ _ h => h) (by rfl) ?_ ?_; rotate_left; focus (intro w hSw; go_simp; try with_reducible rfl))
          simp only [Act.put, List.setIfInBounds_toArray, List.set_cons_zero, List.set_cons_succ]
          (refine reg_take 1 (v := ?_) (by rfl) (by kernel_rfl) (by kernel_rfl) (by kernel_rfl) (by exact fun _ _ _ h => h) (by rfl) ?_ ?_; rotate_left; focus (intro w hSw; go_simp; try with_reducible rfl))
          simp only [Act.put, List.setIfInBounds_toArray, List.set_cons_zero, List.set_cons_succ]
          (refine reg_take 2 (v := ?_) (by rfl) (by kernel_rfl) (by kernel_rfl) (by kernel_rfl) (by exact fun _ _ _ h => h) (by rfl) ?_ ?_; rotate_left; focus (intro w hSw; go_simp; try with_reducible rfl))
          simp only [Act.put, List.setIfInBounds_toArray, List.set_cons_zero, List.set_cons_succ]
          first | (refine reg_skip 3 (by rfl) (by kernel_rfl) (by kernel_rfl) (by kernel_rfl) (by exact fun _ _ _ h => h) (by rfl) ?_) | (refine reg_take 3 (v := ?_) (by rfl) (by kernel_rfl) (by kernel_rfl) (by kernel_rfl) (by exact fun _ _ _ h => h) (by rfl) ?_ ?_; rotate_left; focus (intro w hSw; go_simp; try with_reducible rfl))
          simp only [Act.put, List.setIfInBounds_toArray, List.set_cons_zero, List.set_cons_succ]
          first | (refine reg_skip 4 (by rfl) (by kernel_rfl) (by kernel_rfl) (by kernel_rfl) (by exact fun _ _ _ h => h) (by rfl) ?_) | (refine reg_take 4 (v := ?_) (by rfl) (by kernel_rfl) (by kernel_rfl) (by kernel_rfl) (by exact fun _ _ _ h => h) (by rfl) ?_ ?_; rotate_left; focus (intro w hSw; go_simp; try with_reducible rfl))
          simp only [Act.put, List.setIfInBounds_toArray, List.set_cons_zero, List.set_cons_succ]
          (refine reg_take 5 (v := ?_) (by rfl) (by kernel_rfl) (by kernel_rfl) (by kernel_rfl) (by exact fun _ _ _ h => h) (by rfl) ?_ ?_; rotate_left; focus (intro w hSw; go_simp; try with_reducible rfl))
          simp only [Act.put, List.setIfInBounds_toArray, List.set_cons_zero, List.set_cons_succ]
          (refine reg_take 6 (v := ?_) (by rfl) (by kernel_rfl) (by kernel_rfl) (by kernel_rfl) (by exact fun _ _ _ h => h) (by rfl) ?_ ?_; rotate_left; focus (intro w hSw; go_simp; try with_reducible rfl))
          simp only [Act.put, List.setIfInBounds_toArray, List.set_cons_zero, List.set_cons_succ]
          refine reg_two 7 9 (by kernel_rfl) (by rfl) (by rfl) (fun K hK => ?_) (fun K hK => ?_)
          focus
            refine step_loadB HXA.out (by rfl) 33 _ (by rfl) (by rfl) _ Try.underlying33 rfl (by rw [hyl.out]; kernel_rfl) ?_
            refine hK.out _ _ ((by unfold Aft; exact Below.refl _ _)) ?_
            clear hK K
            try simp only [Act.put, List.setIfInBounds_toArray, List.set_cons_zero, List.set_cons_succ]
            refine reg_two 8 9 (by kernel_rfl) (by rfl) (by rfl) (fun K hK => ?_) (fun K hK => ?_)
            focus
              go_simp
              go_at_call 13; have hof := requestOf_any HQD.out HRL.out; rw [← HYS.out] at hof; refine hof.mono ?_; clear hof; rintro e w12 ⟨o12, z1, z2, ev12, al12, rfl, hq12, hb12⟩
              refine hK.out _ _ (hb12) ?_
              clear hK K
              try simp only [Act.put, List.setIfInBounds_toArray, List.set_cons_zero, List.set_cons_succ]
              refine reg_call 9 (by kernel_rfl) (by rfl) (fun K hK => ?_)
              first | (refine step_loadB HXB.out (by rfl) 48 _ (by rfl) (by rfl) _ Try.underlying48 rfl (by rw [hzl.out]; kernel_rfl) ?_) | (refine step_loadB (goesBx.after HXB.out hb12) (by rfl) 48 _ (by rfl) (by rfl) _ Try.underlying48 rfl (by rw [hzl.out]; kernel_rfl) ?_)
              refine hK.out _ _ ((by unfold Aft; exact Below.refl _ _)) ?_
              clear hK K
              try simp only [Act.put, List.setIfInBounds_toArray, List.set_cons_zero, List.set_cons_succ]
              refine reg_call 10 (by kernel_rfl) (by rfl) (fun K hK => ?_)
              go_simp
              go_at_call 16; have hsm := same8_any hq12 (goesRf.after HFD.out hb12); rw [← HZS.out] at hsm; refine hsm.mono ?_; clear hsm; rintro e w13 ⟨rfl, hb13⟩; have e16 := Aft.each (kcell hb13 (kcell hb12 (HXA.out.c 16 _ Y16.out))); have e11 := Aft.each (kcell hb13 (kcell hb12 (HXP.out.c 11 _ P11.out))); have e12 := Aft.each (kcell hb13 (kcell hb12 (HXP.out.c 12 _ P12.out)))
              refine hK.out _ _ (hb13) ?_
              clear hK K
              try simp only [Act.put, List.setIfInBounds_toArray, List.set_cons_zero, List.set_cons_succ]
              (refine reg_take 11 (v := ?_) (by rfl) (by kernel_rfl) (by kernel_rfl) (by kernel_rfl) (by exact fun _ _ _ h => h) (by rfl) ?_ ?_; rotate_left; focus (intro w hSw; go_simp; try with_reducible rfl))
              simp only [Act.put, List.setIfInBounds_toArray, List.set_cons_zero, List.set_cons_succ]
              (refine reg_take 12 (v := ?_) (by rfl) (by kernel_rfl) (by kernel_rfl) (by kernel_rfl) (by exact fun _ _ _ h => h) (by rfl) ?_ ?_; rotate_left; focus (intro w hSw; go_simp; try with_reducible rfl))
              simp only [Act.put, List.setIfInBounds_toArray, List.set_cons_zero, List.set_cons_succ]
              first | (refine reg_skip 13 (by rfl) (by kernel_rfl) (by kernel_rfl) (by kernel_rfl) (by exact fun _ _ _ h => h) (by rfl) ?_) | (refine reg_take 13 (v := ?_) (by rfl) (by kernel_rfl) (by kernel_rfl) (by kernel_rfl) (by exact fun _ _ _ h => h) (by rfl) ?_ ?_; rotate_left; focus (intro w hSw; go_simp; try with_reducible rfl))
              simp only [Act.put, List.setIfInBounds_toArray, List.set_cons_zero, List.set_cons_succ]
              first | (refine reg_skip 14 (by rfl) (by kernel_rfl) (by kernel_rfl) (by kernel_rfl) (by exact fun _ _ _ h => h) (by rfl) ?_) | (refine reg_take 14 (v := ?_) (by rfl) (by kernel_rfl) (by kernel_rfl) (by kernel_rfl) (by exact fun _ _ _ h => h) (by rfl) ?_ ?_; rotate_left; focus (intro w hSw; go_simp; try with_reducible rfl))
              simp only [Act.put, List.setIfInBounds_toArray, List.set_cons_zero, List.set_cons_succ]
              first | (refine reg_skip 15 (by rfl) (by kernel_rfl) (by kernel_rfl) (by kernel_rfl) (by exact fun _ _ _ h => h) (by rfl) ?_) | (refine reg_take 15 (v := ?_) (by rfl) (by kernel_rfl) (by kernel_rfl) (by kernel_rfl) (by exact fun _ _ _ h => h) (by rfl) ?_ ?_; rotate_left; focus (intro w hSw; go_simp; try with_reducible rfl))
              simp only [Act.put, List.setIfInBounds_toArray, List.set_cons_zero, List.set_cons_succ]
              first | (refine reg_skip 16 (by rfl) (by kernel_rfl) (by kernel_rfl) (by kernel_rfl) (by exact fun _ _ _ h => h) (by rfl) ?_) | (refine reg_take 16 (v := ?_) (by rfl) (by kernel_rfl) (by kernel_rfl) (by kernel_rfl) (by exact fun _ _ _ h => h) (by rfl) ?_ ?_; rotate_left; focus (intro w hSw; go_simp; try with_reducible rfl))
              simp only [Act.put, List.setIfInBounds_toArray, List.set_cons_zero, List.set_cons_succ]
              first | (refine reg_skip 17 (by rfl) (by kernel_rfl) (by kernel_rfl) (by kernel_rfl) (by exact fun _ _ _ h => h) (by rfl) ?_) | (refine reg_take 17 (v := ?_) (by rfl) (by kernel_rfl) (by kernel_rfl) (by kernel_rfl) (by exact fun _ _ _ h => h) (by rfl) ?_ ?_; rotate_left; focus (intro w hSw; go_simp; try with_reducible rfl))
              simp only [Act.put, List.setIfInBounds_toArray, List.set_cons_zero, List.set_cons_succ]
              first | (refine reg_skip 18 (by rfl) (by kernel_rfl) (by kernel_rfl) (by kernel_rfl) (by exact fun _ _ _ h => h) (by rfl) ?_) | (refine reg_take 18 (v := ?_) (by rfl) (by kernel_rfl) (by kernel_rfl) (by kernel_rfl) (by exact fun _ _ _ h => h) (by rfl) ?_ ?_; rotate_left; focus (intro w hSw; go_simp; try with_reducible rfl))
              simp only [Act.put, List.setIfInBounds_toArray, List.set_cons_zero, List.set_cons_succ]
              first | (refine reg_skip 19 (by rfl) (by kernel_rfl) (by kernel_rfl) (by kernel_rfl) (by exact fun _ _ _ h => h) (by rfl) ?_) | (refine reg_take 19 (v := ?_) (by rfl) (by kernel_rfl) (by kernel_rfl) (by kernel_rfl) (by exact fun _ _ _ h => h) (by rfl) ?_ ?_; rotate_left; focus (intro w hSw; go_simp; try with_reducible rfl))
              simp only [Act.put, List.setIfInBounds_toArray, List.set_cons_zero, List.set_cons_succ]
              first | (refine reg_skip 20 (by rfl) (by kernel_rfl) (by kernel_rfl) (by kernel_rfl) (by exact fun _ _ _ h => h) (by rfl) ?_) | (refine reg_take 20 (v := ?_) (by rfl) (by kernel_rfl) (by kernel_rfl) (by kernel_rfl) (by exact fun _ _ _ h => h) (by rfl) ?_ ?_; rotate_left; focus (intro w hSw; go_simp; try with_reducible rfl))
              simp only [Act.put, List.setIfInBounds_toArray, List.set_cons_zero, List.set_cons_succ]
              first | (refine reg_skip 21 (by rfl) (by kernel_rfl) (by kernel_rfl) (by kernel_rfl) (by exact fun _ _ _ h => h) (by rfl) ?_) | (refine reg_take 21 (v := ?_) (by rfl) (by kernel_rfl) (by kernel_rfl) (by kernel_rfl) (by exact fun _ _ _ h => h) (by rfl) ?_ ?_; rotate_left; focus (intro w hSw; go_simp; try with_reducible rfl))
              simp only [Act.put, List.setIfInBounds_toArray, List.set_cons_zero, List.set_cons_succ]
              first | (refine reg_skip 22 (by rfl) (by kernel_rfl) (by kernel_rfl) (by kernel_rfl) (by exact fun _ _ _ h => h) (by rfl) ?_) | (refine reg_take 22 (v := ?_) (by rfl) (by kernel_rfl) (by kernel_rfl) (by kernel_rfl) (by exact fun _ _ _ h => h) (by rfl) ?_ ?_; rotate_left; focus (intro w hSw; go_simp; try with_reducible rfl))
              simp only [Act.put, List.setIfInBounds_toArray, List.set_cons_zero, List.set_cons_succ]
              first | (refine reg_skip 23 (by rfl) (by kernel_rfl) (by kernel_rfl) (by kernel_rfl) (by exact fun _ _ _ h => h) (by rfl) ?_) | (refine reg_take 23 (v := ?_) (by rfl) (by kernel_rfl) (by kernel_rfl) (by kernel_rfl) (by exact fun _ _ _ h => h) (by rfl) ?_ ?_; rotate_left; focus (intro w hSw; go_simp; try with_reducible rfl))
              simp only [Act.put, List.setIfInBounds_toArray, List.set_cons_zero, List.set_cons_succ]
              first | (refine reg_skip 24 (by rfl) (by kernel_rfl) (by kernel_rfl) (by kernel_rfl) (by exact fun _ _ _ h => h) (by rfl) ?_) | (refine reg_take 24 (v := ?_) (by rfl) (by kernel_rfl) (by kernel_rfl) (by kernel_rfl) (by exact fun _ _ _ h => h) (by rfl) ?_ ?_; rotate_left; focus (intro w hSw; go_simp; try with_reducible rfl))
              simp only [Act.put, List.setIfInBounds_toArray, List.set_cons_zero, List.set_cons_succ]
              first | (refine reg_skip 25 (by rfl) (by kernel_rfl) (by kernel_rfl) (by kernel_rfl) (by exact fun _ _ _ h => h) (by rfl) ?_) | (refine reg_take 25 (v := ?_) (by rfl) (by kernel_rfl) (by kernel_rfl) (by kernel_rfl) (by exact fun _ _ _ h => h) (by rfl) ?_ ?_; rotate_left; focus (intro w hSw; go_simp; try with_reducible rfl))
              simp only [Act.put, List.setIfInBounds_toArray, List.set_cons_zero, List.set_cons_succ]
              first | (refine reg_skip 26 (by rfl) (by kernel_rfl) (by kernel_rfl) (by kernel_rfl) (by exact fun _ _ _ h => h) (by rfl) ?_) | (refine reg_take 26 (v := ?_) (by rfl) (by kernel_rfl) (by kernel_rfl) (by kernel_rfl) (by exact fun _ _ _ h => h) (by rfl) ?_ ?_; rotate_left; focus (intro w hSw; go_simp; try with_reducible rfl))
              simp only [Act.put, List.setIfInBounds_toArray, List.set_cons_zero, List.set_cons_succ]
              (refine reg_take 27 (v := ?_) (by rfl) (by kernel_rfl) (by kernel_rfl) (by kernel_rfl) (by exact fun _ _ _ h => h) (by rfl) ?_ ?_; rotate_left; focus (intro w hSw; go_simp; try with_reducible rfl))
              simp only [Act.put, List.setIfInBounds_toArray, List.set_cons_zero, List.set_cons_succ]
              (refine reg_take 28 (v := ?_) (by rfl) (by kernel_rfl) (by kernel_rfl) (by kernel_rfl) (by exact fun _ _ _ h => h) (by rfl) ?_ ?_; rotate_left; focus (intro w hSw; go_simp; try with_reducible rfl))
              simp only [Act.put, List.setIfInBounds_toArray, List.set_cons_zero, List.set_cons_succ]
              refine wpAnyH_done (by kernel_rfl) ?_ _
            rotate_left 1
            focus
              first | (refine step_loadB HXB.out (by rfl) 48 _ (by rfl) (by rfl) _ Try.underlying48 rfl (by rw [hzl.out]; kernel_rfl) ?_) | (refine step_loadB (goesBx.after HXB.out hb12) (by rfl) 48 _ (by rfl) (by rfl) _ Try.underlying48 rfl (by rw [hzl.out]; kernel_rfl) ?_)
              refine hK.out _ _ ((by unfold Aft; exact Below.refl _ _)) ?_
              clear hK K
              try simp only [Act.put, List.setIfInBounds_toArray, List.set_cons_zero, List.set_cons_succ]
              refine reg_call 8 (by kernel_rfl) (by rfl) (fun K hK => ?_)
              go_simp
              go_at_call 13; have hof := requestOf_any HQD.out HRL.out; rw [← HYS.out] at hof; refine hof.mono ?_; clear hof; rintro e w12 ⟨o12, z1, z2, ev12, al12, rfl, hq12, hb12⟩
              refine hK.out _ _ (hb12) ?_
              clear hK K
              try simp only [Act.put, List.setIfInBounds_toArray, List.set_cons_zero, List.set_cons_succ]
              refine reg_call 10 (by kernel_rfl) (by rfl) (fun K hK => ?_)
              go_simp
              go_at_call 16; have hsm := same8_any hq12 (goesRf.after HFD.out hb12); rw [← HZS.out] at hsm; refine hsm.mono ?_; clear hsm; rintro e w13 ⟨rfl, hb13⟩; have e16 := Aft.each (kcell hb13 (kcell hb12 (HXA.out.c 16 _ Y16.out))); have e11 := Aft.each (kcell hb13 (kcell hb12 (HXP.out.c 11 _ P11.out))); have e12 := Aft.each (kcell hb13 (kcell hb12 (HXP.out.c 12 _ P12.out)))
              refine hK.out _ _ (hb13) ?_
              clear hK K
              try simp only [Act.put, List.setIfInBounds_toArray, List.set_cons_zero, List.set_cons_succ]
              (refine reg_take 11 (v := ?_) (by rfl) (by kernel_rfl) (by kernel_rfl) (by kernel_rfl) (by exact fun _ _ _ h => h) (by rfl) ?_ ?_; rotate_left; focus (intro w hSw; go_simp; try with_reducible rfl))
              simp only [Act.put, List.setIfInBounds_toArray, List.set_cons_zero, List.set_cons_succ]
              (refine reg_take 12 (v := ?_) (by rfl) (by kernel_rfl) (by kernel_rfl) (by kernel_rfl) (by exact fun _ _ _ h => h) (by rfl) ?_ ?_; rotate_left; focus (intro w hSw; go_simp; try with_reducible rfl))
              simp only [Act.put, List.setIfInBounds_toArray, List.set_cons_zero, List.set_cons_succ]
              first | (refine reg_skip 13 (by rfl) (by kernel_rfl) (by kernel_rfl) (by kernel_rfl) (by exact fun _ _ _ h => h) (by rfl) ?_) | (refine reg_take 13 (v := ?_) (by rfl) (by kernel_rfl) (by kernel_rfl) (by kernel_rfl) (by exact fun _ _ _ h => h) (by rfl) ?_ ?_; rotate_left; focus (intro w hSw; go_simp; try with_reducible rfl))
              simp only [Act.put, List.setIfInBounds_toArray, List.set_cons_zero, List.set_cons_succ]
              first | (refine reg_skip 14 (by rfl) (by kernel_rfl) (by kernel_rfl) (by kernel_rfl) (by exact fun _ _ _ h => h) (by rfl) ?_) | (refine reg_take 14 (v := ?_) (by rfl) (by kernel_rfl) (by kernel_rfl) (by kernel_rfl) (by exact fun _ _ _ h => h) (by rfl) ?_ ?_; rotate_left; focus (intro w hSw; go_simp; try with_reducible rfl))
              simp only [Act.put, List.setIfInBounds_toArray, List.set_cons_zero, List.set_cons_succ]
              first | (refine reg_skip 15 (by rfl) (by kernel_rfl) (by kernel_rfl) (by kernel_rfl) (by exact fun _ _ _ h => h) (by rfl) ?_) | (refine reg_take 15 (v := ?_) (by rfl) (by kernel_rfl) (by kernel_rfl) (by kernel_rfl) (by exact fun _ _ _ h => h) (by rfl) ?_ ?_; rotate_left; focus (intro w hSw; go_simp; try with_reducible rfl))
              simp only [Act.put, List.setIfInBounds_toArray, List.set_cons_zero, List.set_cons_succ]
              first | (refine reg_skip 16 (by rfl) (by kernel_rfl) (by kernel_rfl) (by kernel_rfl) (by exact fun _ _ _ h => h) (by rfl) ?_) | (refine reg_take 16 (v := ?_) (by rfl) (by kernel_rfl) (by kernel_rfl) (by kernel_rfl) (by exact fun _ _ _ h => h) (by rfl) ?_ ?_; rotate_left; focus (intro w hSw; go_simp; try with_reducible rfl))
              simp only [Act.put, List.setIfInBounds_toArray, List.set_cons_zero, List.set_cons_succ]
              first | (refine reg_skip 17 (by rfl) (by kernel_rfl) (by kernel_rfl) (by kernel_rfl) (by exact fun _ _ _ h => h) (by rfl) ?_) | (refine reg_take 17 (v := ?_) (by rfl) (by kernel_rfl) (by kernel_rfl) (by kernel_rfl) (by exact fun _ _ _ h => h) (by rfl) ?_ ?_; rotate_left; focus (intro w hSw; go_simp; try with_reducible rfl))
              simp only [Act.put, List.setIfInBounds_toArray, List.set_cons_zero, List.set_cons_succ]
              first | (refine reg_skip 18 (by rfl) (by kernel_rfl) (by kernel_rfl) (by kernel_rfl) (by exact fun _ _ _ h => h) (by rfl) ?_) | (refine reg_take 18 (v := ?_) (by rfl) (by kernel_rfl) (by kernel_rfl) (by kernel_rfl) (by exact fun _ _ _ h => h) (by rfl) ?_ ?_; rotate_left; focus (intro w hSw; go_simp; try with_reducible rfl))
              simp only [Act.put, List.setIfInBounds_toArray, List.set_cons_zero, List.set_cons_succ]
              first | (refine reg_skip 19 (by rfl) (by kernel_rfl) (by kernel_rfl) (by kernel_rfl) (by exact fun _ _ _ h => h) (by rfl) ?_) | (refine reg_take 19 (v := ?_) (by rfl) (by kernel_rfl) (by kernel_rfl) (by kernel_rfl) (by exact fun _ _ _ h => h) (by rfl) ?_ ?_; rotate_left; focus (intro w hSw; go_simp; try with_reducible rfl))
              simp only [Act.put, List.setIfInBounds_toArray, List.set_cons_zero, List.set_cons_succ]
              first | (refine reg_skip 20 (by rfl) (by kernel_rfl) (by kernel_rfl) (by kernel_rfl) (by exact fun _ _ _ h => h) (by rfl) ?_) | (refine reg_take 20 (v := ?_) (by rfl) (by kernel_rfl) (by kernel_rfl) (by kernel_rfl) (by exact fun _ _ _ h => h) (by rfl) ?_ ?_; rotate_left; focus (intro w hSw; go_simp; try with_reducible rfl))
              simp only [Act.put, List.setIfInBounds_toArray, List.set_cons_zero, List.set_cons_succ]
              first | (refine reg_skip 21 (by rfl) (by kernel_rfl) (by kernel_rfl) (by kernel_rfl) (by exact fun _ _ _ h => h) (by rfl) ?_) | (refine reg_take 21 (v := ?_) (by rfl) (by kernel_rfl) (by kernel_rfl) (by kernel_rfl) (by exact fun _ _ _ h => h) (by rfl) ?_ ?_; rotate_left; focus (intro w hSw; go_simp; try with_reducible rfl))
              simp only [Act.put, List.setIfInBounds_toArray, List.set_cons_zero, List.set_cons_succ]
              first | (refine reg_skip 22 (by rfl) (by kernel_rfl) (by kernel_rfl) (by kernel_rfl) (by exact fun _ _ _ h => h) (by rfl) ?_) | (refine reg_take 22 (v := ?_) (by rfl) (by kernel_rfl) (by kernel_rfl) (by kernel_rfl) (by exact fun _ _ _ h => h) (by rfl) ?_ ?_; rotate_left; focus (intro w hSw; go_simp; try with_reducible rfl))
              simp only [Act.put, List.setIfInBounds_toArray, List.set_cons_zero, List.set_cons_succ]
              first | (refine reg_skip 23 (by rfl) (by kernel_rfl) (by kernel_rfl) (by kernel_rfl) (by exact fun _ _ _ h => h) (by rfl) ?_) | (refine reg_take 23 (v := ?_) (by rfl) (by kernel_rfl) (by kernel_rfl) (by kernel_rfl) (by exact fun _ _ _ h => h) (by rfl) ?_ ?_; rotate_left; focus (intro w hSw; go_simp; try with_reducible rfl))
              simp only [Act.put, List.setIfInBounds_toArray, List.set_cons_zero, List.set_cons_succ]
              first | (refine reg_skip 24 (by rfl) (by kernel_rfl) (by kernel_rfl) (by kernel_rfl) (by exact fun _ _ _ h => h) (by rfl) ?_) | (refine reg_take 24 (v := ?_) (by rfl) (by kernel_rfl) (by kernel_rfl) (by kernel_rfl) (by exact fun _ _ _ h => h) (by rfl) ?_ ?_; rotate_left; focus (intro w hSw; go_simp; try with_reducible rfl))
              simp only [Act.put, List.setIfInBounds_toArray, List.set_cons_zero, List.set_cons_succ]
              first | (refine reg_skip 25 (by rfl) (by kernel_rfl) (by kernel_rfl) (by kernel_rfl) (by exact fun _ _ _ h => h) (by rfl) ?_) | (refine reg_take 25 (v := ?_) (by rfl) (by kernel_rfl) (by kernel_rfl) (by kernel_rfl) (by exact fun _ _ _ h => h) (by rfl) ?_ ?_; rotate_left; focus (intro w hSw; go_simp; try with_reducible rfl))
              simp only [Act.put, List.setIfInBounds_toArray, List.set_cons_zero, List.set_cons_succ]
              first | (refine reg_skip 26 (by rfl) (by kernel_rfl) (by kernel_rfl) (by kernel_rfl) (by exact fun _ _ _ h => h) (by rfl) ?_) | (refine reg_take 26 (v := ?_) (by rfl) (by kernel_rfl) (by kernel_rfl) (by kernel_rfl) (by exact fun _ _ _ h => h) (by rfl) ?_ ?_; rotate_left; focus (intro w hSw; go_simp; try with_reducible rfl))
              simp only [Act.put, List.setIfInBounds_toArray, List.set_cons_zero, List.set_cons_succ]
              (refine reg_take 27 (v := ?_) (by rfl) (by kernel_rfl) (by kernel_rfl) (by kernel_rfl) (by exact fun _ _ _ h => h) (by rfl) ?_ ?_; rotate_left; focus (intro w hSw; go_simp; try with_reducible rfl))
              simp only [Act.put, List.setIfInBounds_toArray, List.set_cons_zero, List.set_cons_succ]
              (refine reg_take 28 (v := ?_) (by rfl) (by kernel_rfl) (by kernel_rfl) (by kernel_rfl) (by exact fun _ _ _ h => h) (by rfl) ?_ ?_; rotate_left; focus (intro w hSw; go_simp; try with_reducible rfl))
              simp only [Act.put, List.setIfInBounds_toArray, List.set_cons_zero, List.set_cons_succ]
              refine wpAnyH_done (by kernel_rfl) ?_ _
          rotate_left 2
          focus
            first | (refine step_loadB HXB.out (by rfl) 48 _ (by rfl) (by rfl) _ Try.underlying48 rfl (by rw [hzl.out]; kernel_rfl) ?_) | (refine step_loadB (goesBx.after HXB.out hb12) (by rfl) 48 _ (by rfl) (by rfl) _ Try.underlying48 rfl (by rw [hzl.out]; kernel_rfl) ?_)
            refine hK.out _ _ ((by unfold Aft; exact Below.refl _ _)) ?_
            clear hK K
            try simp only [Act.put, List.setIfInBounds_toArray, List.set_cons_zero, List.set_cons_succ]
            refine reg_call 7 (by kernel_rfl) (by rfl) (fun K hK => ?_)
            refine step_loadB HXA.out (by rfl) 33 _ (by rfl) (by rfl) _ Try.underlying33 rfl (by rw [hyl.out]; kernel_rfl) ?_
            refine hK.out _ _ ((by unfold Aft; exact Below.refl _ _)) ?_
            clear hK K
            try simp only [Act.put, List.setIfInBounds_toArray, List.set_cons_zero, List.set_cons_succ]
            refine reg_call 8 (by kernel_rfl) (by rfl) (fun K hK => ?_)
            go_simp
            go_at_call 13; have hof := requestOf_any HQD.out HRL.out; rw [← HYS.out] at hof; refine hof.mono ?_; clear hof; rintro e w12 ⟨o12, z1, z2, ev12, al12, rfl, hq12, hb12⟩
            refine hK.out _ _ (hb12) ?_
            clear hK K
            try simp only [Act.put, List.setIfInBounds_toArray, List.set_cons_zero, List.set_cons_succ]
            refine reg_call 10 (by kernel_rfl) (by rfl) (fun K hK => ?_)
            go_simp
            go_at_call 16; have hsm := same8_any hq12 (goesRf.after HFD.out hb12); rw [← HZS.out] at hsm; refine hsm.mono ?_; clear hsm; rintro e w13 ⟨rfl, hb13⟩; have e16 := Aft.each (kcell hb13 (kcell hb12 (HXA.out.c 16 _ Y16.out))); have e11 := Aft.each (kcell hb13 (kcell hb12 (HXP.out.c 11 _ P11.out))); have e12 := Aft.each (kcell hb13 (kcell hb12 (HXP.out.c 12 _ P12.out)))
            refine hK.out _ _ (hb13) ?_
            clear hK K
            try simp only [Act.put, List.setIfInBounds_toArray, List.set_cons_zero, List.set_cons_succ]
            (refine reg_take 11 (v := ?_) (by rfl) (by kernel_rfl) (by kernel_rfl) (by kernel_rfl) (by exact fun _ _ _ h => h) (by rfl) ?_ ?_; rotate_left; focus (intro w hSw; go_simp; try with_reducible rfl))
            simp only [Act.put, List.setIfInBounds_toArray, List.set_cons_zero, List.set_cons_succ]
            (refine reg_take 12 (v := ?_) (by rfl) (by kernel_rfl) (by kernel_rfl) (by kernel_rfl) (by exact fun _ _ _ h => h) (by rfl) ?_ ?_; rotate_left; focus (intro w hSw; go_simp; try with_reducible rfl))
            simp only [Act.put, List.setIfInBounds_toArray, List.set_cons_zero, List.set_cons_succ]
            first | (refine reg_skip 13 (by rfl) (by kernel_rfl) (by kernel_rfl) (by kernel_rfl) (by exact fun _ _ _ h => h) (by rfl) ?_) | (refine reg_take 13 (v := ?_) (by rfl) (by kernel_rfl) (by kernel_rfl) (by kernel_rfl) (by exact fun _ _ _ h => h) (by rfl) ?_ ?_; rotate_left; focus (intro w hSw; go_simp; try with_reducible rfl))
            simp only [Act.put, List.setIfInBounds_toArray, List.set_cons_zero, List.set_cons_succ]
            first | (refine reg_skip 14 (by rfl) (by kernel_rfl) (by kernel_rfl) (by kernel_rfl) (by exact fun _ _ _ h => h) (by rfl) ?_) | (refine reg_take 14 (v := ?_) (by rfl) (by kernel_rfl) (by kernel_rfl) (by kernel_rfl) (by exact fun _ _ _ h => h) (by rfl) ?_ ?_; rotate_left; focus (intro w hSw; go_simp; try with_reducible rfl))
            simp only [Act.put, List.setIfInBounds_toArray, List.set_cons_zero, List.set_cons_succ]
            first | (refine reg_skip 15 (by rfl) (by kernel_rfl) (by kernel_rfl) (by kernel_rfl) (by exact fun _ _ _ h => h) (by rfl) ?_) | (refine reg_take 15 (v := ?_) (by rfl) (by kernel_rfl) (by kernel_rfl) (by kernel_rfl) (by exact fun _ _ _ h => h) (by rfl) ?_ ?_; rotate_left; focus (intro w hSw; go_simp; try with_reducible rfl))
            simp only [Act.put, List.setIfInBounds_toArray, List.set_cons_zero, List.set_cons_succ]
            first | (refine reg_skip 16 (by rfl) (by kernel_rfl) (by kernel_rfl) (by kernel_rfl) (by exact fun _ _ _ h => h) (by rfl) ?_) | (refine reg_take 16 (v := ?_) (by rfl) (by kernel_rfl) (by kernel_rfl) (by kernel_rfl) (by exact fun _ _ _ h => h) (by rfl) ?_ ?_; rotate_left; focus (intro w hSw; go_simp; try with_reducible rfl))
            simp only [Act.put, List.setIfInBounds_toArray, List.set_cons_zero, List.set_cons_succ]
            first | (refine reg_skip 17 (by rfl) (by kernel_rfl) (by kernel_rfl) (by kernel_rfl) (by exact fun _ _ _ h => h) (by rfl) ?_) | (refine reg_take 17 (v := ?_) (by rfl) (by kernel_rfl) (by kernel_rfl) (by kernel_rfl) (by exact fun _ _ _ h => h) (by rfl) ?_ ?_; rotate_left; focus (intro w hSw; go_simp; try with_reducible rfl))
            simp only [Act.put, List.setIfInBounds_toArray, List.set_cons_zero, List.set_cons_succ]
            first | (refine reg_skip 18 (by rfl) (by kernel_rfl) (by kernel_rfl) (by kernel_rfl) (by exact fun _ _ _ h => h) (by rfl) ?_) | (refine reg_take 18 (v := ?_) (by rfl) (by kernel_rfl) (by kernel_rfl) (by kernel_rfl) (by exact fun _ _ _ h => h) (by rfl) ?_ ?_; rotate_left; focus (intro w hSw; go_simp; try with_reducible rfl))
            simp only [Act.put, List.setIfInBounds_toArray, List.set_cons_zero, List.set_cons_succ]
            first | (refine reg_skip 19 (by rfl) (by kernel_rfl) (by kernel_rfl) (by kernel_rfl) (by exact fun _ _ _ h => h) (by rfl) ?_) | (refine reg_take 19 (v := ?_) (by rfl) (by kernel_rfl) (by kernel_rfl) (by kernel_rfl) (by exact fun _ _ _ h => h) (by rfl) ?_ ?_; rotate_left; focus (intro w hSw; go_simp; try with_reducible rfl))
            simp only [Act.put, List.setIfInBounds_toArray, List.set_cons_zero, List.set_cons_succ]
            first | (refine reg_skip 20 (by rfl) (by kernel_rfl) (by kernel_rfl) (by kernel_rfl) (by exact fun _ _ _ h => h) (by rfl) ?_) | (refine reg_take 20 (v := ?_) (by rfl) (by kernel_rfl) (by kernel_rfl) (by kernel_rfl) (by exact fun _ _ _ h => h) (by rfl) ?_ ?_; rotate_left; focus (intro w hSw; go_simp; try with_reducible rfl))
            simp only [Act.put, List.setIfInBounds_toArray, List.set_cons_zero, List.set_cons_succ]
            first | (refine reg_skip 21 (by rfl) (by kernel_rfl) (by kernel_rfl) (by kernel_rfl) (by exact fun _ _ _ h => h) (by rfl) ?_) | (refine reg_take 21 (v := ?_) (by rfl) (by kernel_rfl) (by kernel_rfl) (by kernel_rfl) (by exact fun _ _ _ h => h) (by rfl) ?_ ?_; rotate_left; focus (intro w hSw; go_simp; try with_reducible rfl))
            simp only [Act.put, List.setIfInBounds_toArray, List.set_cons_zero, List.set_cons_succ]
            first | (refine reg_skip 22 (by rfl) (by kernel_rfl) (by kernel_rfl) (by kernel_rfl) (by exact fun _ _ _ h => h) (by rfl) ?_) | (refine reg_take 22 (v := ?_) (by rfl) (by kernel_rfl) (by kernel_rfl) (by kernel_rfl) (by exact fun _ _ _ h => h) (by rfl) ?_ ?_; rotate_left; focus (intro w hSw; go_simp; try with_reducible rfl))
            simp only [Act.put, List.setIfInBounds_toArray, List.set_cons_zero, List.set_cons_succ]
            first | (refine reg_skip 23 (by rfl) (by kernel_rfl) (by kernel_rfl) (by kernel_rfl) (by exact fun _ _ _ h => h) (by rfl) ?_) | (refine reg_take 23 (v := ?_) (by rfl) (by kernel_rfl) (by kernel_rfl) (by kernel_rfl) (by exact fun _ _ _ h => h) (by rfl) ?_ ?_; rotate_left; focus (intro w hSw; go_simp; try with_reducible rfl))
            simp only [Act.put, List.setIfInBounds_toArray, List.set_cons_zero, List.set_cons_succ]
            first | (refine reg_skip 24 (by rfl) (by kernel_rfl) (by kernel_rfl) (by kernel_rfl) (by exact fun _ _ _ h => h) (by rfl) ?_) | (refine reg_take 24 (v := ?_) (by rfl) (by kernel_rfl) (by kernel_rfl) (by kernel_rfl) (by exact fun _ _ _ h => h) (by rfl) ?_ ?_; rotate_left; focus (intro w hSw; go_simp; try with_reducible rfl))
            simp only [Act.put, List.setIfInBounds_toArray, List.set_cons_zero, List.set_cons_succ]
            first | (refine reg_skip 25 (by rfl) (by kernel_rfl) (by kernel_rfl) (by kernel_rfl) (by exact fun _ _ _ h => h) (by rfl) ?_) | (refine reg_take 25 (v := ?_) (by rfl) (by kernel_rfl) (by kernel_rfl) (by kernel_rfl) (by exact fun _ _ _ h => h) (by rfl) ?_ ?_; rotate_left; focus (intro w hSw; go_simp; try with_reducible rfl))
            simp only [Act.put, List.setIfInBounds_toArray, List.set_cons_zero, List.set_cons_succ]
            first | (refine reg_skip 26 (by rfl) (by kernel_rfl) (by kernel_rfl) (by kernel_rfl) (by exact fun _ _ _ h => h) (by rfl) ?_) | (refine reg_take 26 (v := ?_) (by rfl) (by kernel_rfl) (by kernel_rfl) (by kernel_rfl) (by exact fun _ _ _ h => h) (by rfl) ?_ ?_; rotate_left; focus (intro w hSw; go_simp; try with_reducible rfl))
            simp only [Act.put, List.setIfInBounds_toArray, List.set_cons_zero, List.set_cons_succ]
            (refine reg_take 27 (v := ?_) (by rfl) (by kernel_rfl) (by kernel_rfl) (by kernel_rfl) (by exact fun _ _ _ h => h) (by rfl) ?_ ?_; rotate_left; focus (intro w hSw; go_simp; try with_reducible rfl))
            simp only [Act.put, List.setIfInBounds_toArray, List.set_cons_zero, List.set_cons_succ]
            (refine reg_take 28 (v := ?_) (by rfl) (by kernel_rfl) (by kernel_rfl) (by kernel_rfl) (by exact fun _ _ _ h => h) (by rfl) ?_ ?_; rotate_left; focus (intro w hSw; go_simp; try with_reducible rfl))
            simp only [Act.put, List.setIfInBounds_toArray, List.set_cons_zero, List.set_cons_succ]
            refine wpAnyH_done (by kernel_rfl) ?_ _
          all_goals
            have HB13 : Hid (Below w.heap.size w w13) := Lib.hid (HB11.out.trans (((Below.refl w11.heap.size w11).drew.trans (hb12.trans (hb13.mono hb12.size))).mono hz11))
            clear hb12 hb13 e16 e11 e12
            go_wp2_with fail
            go_ret
            exact ⟨by simp, HB13.out⟩
        · have h1 : ((0 : Int) == tm) = false := by rw [beq_eq_false_iff_ne]; omega
          have h2 : (tm == (0 : Int)) = false := by rw [beq_eq_false_iff_ne]; omega
          clear h0
          refine reg_start (by kernel_rfl) ?_
          (refine reg_take 0 (v := ?_) (by rfl) (by kernel_rfl) (by kernel_rfl) (by kernel_rfl) (by exact fun _ _ _ h => h) (by rfl) ?_ ?_; rotate_left; focus (intro w hSw; go_simp; try with_reducible rfl))
          simp only [Act.put, List.setIfInBounds_toArray, List.set_cons_zero, List.set_cons_succ]
          (refine reg_take 1 (v := ?_) (by rfl) (by kernel_rfl) (by kernel_rfl) (by kernel_rfl) (by exact fun _ _ _ h => h) (by rfl) ?_ ?_; rotate_left; focus (intro w hSw; go_simp; try with_reducible rfl))
          simp only [Act.put, List.setIfInBounds_toArray, List.set_cons_zero, List.set_cons_succ]
          (refine reg_take 2 (v := ?_) (by rfl) (by kernel_rfl) (by kernel_rfl) (by kernel_rfl) (by exact fun _ _ _ h => h) (by rfl) ?_ ?_; rotate_left; focus (intro w hSw; go_simp; try with_reducible rfl))
          simp only [Act.put, List.setIfInBounds_toArray, List.set_cons_zero, List.set_cons_succ]
          first | (refine reg_skip 3 (by rfl) (by kernel_rfl) (by kernel_rfl) (by kernel_rfl) (by exact fun _ _ _ h => h) (by rfl) ?_) | (refine reg_take 3 (v := ?_) (by rfl) (by kernel_rfl) (by kernel_rfl) (by kernel_rfl) (by exact fun _ _ _ h => h) (by rfl) ?_ ?_; rotate_left; focus (intro w hSw; go_simp; try with_reducible rfl))
          simp only [Act.put, List.setIfInBounds_toArray, List.set_cons_zero, List.set_cons_succ]
          first | (refine reg_skip 4 (by rfl) (by kernel_rfl) (by kernel_rfl) (by kernel_rfl) (by exact fun _ _ _ h => h) (by rfl) ?_) | (refine reg_take 4 (v := ?_) (by rfl) (by kernel_rfl) (by kernel_rfl) (by kernel_rfl) (by exact fun _ _ _ h => h) (by rfl) ?_ ?_; rotate_left; focus (intro w hSw; go_simp; try with_reducible rfl))
          simp only [Act.put, List.setIfInBounds_toArray, List.set_cons_zero, List.set_cons_succ]
          (refine reg_take 5 (v := ?_) (by rfl) (by kernel_rfl) (by kernel_rfl) (by kernel_rfl) (by exact fun _ _ _ h => h) (by rfl) ?_ ?_; rotate_left; focus (intro w hSw; go_simp; try with_reducible rfl))
          simp only [Act.put, List.setIfInBounds_toArray, List.set_cons_zero, List.set_cons_succ]
          (refine reg_take 6 (v := ?_) (by rfl) (by kernel_rfl) (by kernel_rfl) (by kernel_rfl) (by exact fun _ _ _ h => h) (by rfl) ?_ ?_; rotate_left; focus (intro w hSw; go_simp; try with_reducible rfl))
          simp only [Act.put, List.setIfInBounds_toArray, List.set_cons_zero, List.set_cons_succ]
          refine reg_two 7 9 (by kernel_rfl) (by rfl) (by rfl) (fun K hK => ?_) (fun K hK => ?_)
          focus
            refine step_loadB HXA.out (by rfl) 33 _ (by rfl) (by rfl) _ Try.underlying33 rfl (by rw [hyl.out]; kernel_rfl) ?_
            refine hK.out _ _ ((by unfold Aft; exact Below.refl _ _)) ?_
            clear hK K
            try simp only [Act.put, List.setIfInBounds_toArray, List.set_cons_zero, List.set_cons_succ]
            refine reg_two 8 9 (by kernel_rfl) (by rfl) (by rfl) (fun K hK => ?_) (fun K hK => ?_)
            focus
              go_simp
              go_at_call 13; have hof := requestOf_any HQD.out HRL.out; rw [← HYS.out] at hof; refine hof.mono ?_; clear hof; rintro e w12 ⟨o12, z1, z2, ev12, al12, rfl, hq12, hb12⟩
              refine hK.out _ _ (hb12) ?_
              clear hK K
              try simp only [Act.put, List.setIfInBounds_toArray, List.set_cons_zero, List.set_cons_succ]
              refine reg_call 9 (by kernel_rfl) (by rfl) (fun K hK => ?_)
              first | (refine step_loadB HXB.out (by rfl) 48 _ (by rfl) (by rfl) _ Try.underlying48 rfl (by rw [hzl.out]; kernel_rfl) ?_) | (refine step_loadB (goesBx.after HXB.out hb12) (by rfl) 48 _ (by rfl) (by rfl) _ Try.underlying48 rfl (by rw [hzl.out]; kernel_rfl) ?_)
              refine hK.out _ _ ((by unfold Aft; exact Below.refl _ _)) ?_
              clear hK K
              try simp only [Act.put, List.setIfInBounds_toArray, List.set_cons_zero, List.set_cons_succ]
              refine reg_call 10 (by kernel_rfl) (by rfl) (fun K hK => ?_)
              go_simp
              go_at_call 16; have hsm := same8_any hq12 (goesRf.after HFD.out hb12); rw [← HZS.out] at hsm; refine hsm.mono ?_; clear hsm; rintro e w13 ⟨rfl, hb13⟩; have e16 := Aft.each (kcell hb13 (kcell hb12 (HXA.out.c 16 _ Y16.out))); have e11 := Aft.each (kcell hb13 (kcell hb12 (HXP.out.c 11 _ P11.out))); have e12 := Aft.each (kcell hb13 (kcell hb12 (HXP.out.c 12 _ P12.out)))
              refine hK.out _ _ (hb13) ?_
              clear hK K
              try simp only [Act.put, List.setIfInBounds_toArray, List.set_cons_zero, List.set_cons_succ]
              (refine reg_take 11 (v := ?_) (by rfl) (by kernel_rfl) (by kernel_rfl) (by kernel_rfl) (by exact fun _ _ _ h => h) (by rfl) ?_ ?_; rotate_left; focus (intro w hSw; go_simp; try with_reducible rfl))
              simp only [Act.put, List.setIfInBounds_toArray, List.set_cons_zero, List.set_cons_succ]
              (refine reg_take 12 (v := ?_) (by rfl) (by kernel_rfl) (by kernel_rfl) (by kernel_rfl) (by exact fun _ _ _ h => h) (by rfl) ?_ ?_; rotate_left; focus (intro w hSw; go_simp; try with_reducible rfl))
              simp only [Act.put, List.setIfInBounds_toArray, List.set_cons_zero, List.set_cons_succ]
              first | (refine reg_skip 13 (by rfl) (by kernel_rfl) (by kernel_rfl) (by kernel_rfl) (by exact fun _ _ _ h => h) (by rfl) ?_) | (refine reg_take 13 (v := ?_) (by rfl) (by kernel_rfl) (by kernel_rfl) (by kernel_rfl) (by exact fun _ _ _ h => h) (by rfl) ?_ ?_; rotate_left; focus (intro w hSw; go_simp; try with_reducible rfl))
              simp only [Act.put, List.setIfInBounds_toArray, List.set_cons_zero, List.set_cons_succ]
              first | (refine reg_skip 14 (by rfl) (by kernel_rfl) (by kernel_rfl) (by kernel_rfl) (by exact fun _ _ _ h => h) (by rfl) ?_) | (refine reg_take 14 (v := ?_) (by rfl) (by kernel_rfl) (by kernel_rfl) (by kernel_rfl) (by exact fun _ _ _ h => h) (by rfl) ?_ ?_; rotate_left; focus (intro w hSw; go_simp; try with_reducible rfl))
              simp only [Act.put, List.setIfInBounds_toArray, List.set_cons_zero, List.set_cons_succ]
              first | (refine reg_skip 15 (by rfl) (by kernel_rfl) (by kernel_rfl) (by kernel_rfl) (by exact fun _ _ _ h => h) (by rfl) ?_) | (refine reg_take 15 (v := ?_) (by rfl) (by kernel_rfl) (by kernel_rfl) (by kernel_rfl) (by exact fun _ _ _ h => h) (by rfl) ?_ ?_; rotate_left; focus (intro w hSw; go_simp; try with_reducible rfl))
              simp only [Act.put, List.setIfInBounds_toArray, List.set_cons_zero, List.set_cons_succ]
              first | (refine reg_skip 16 (by rfl) (by kernel_rfl) (by kernel_rfl) (by kernel_rfl) (by exact fun _ _ _ h => h) (by rfl) ?_) | (refine reg_take 16 (v := ?_) (by rfl) (by kernel_rfl) (by kernel_rfl) (by kernel_rfl) (by exact fun _ _ _ h => h) (by rfl) ?_ ?_; rotate_left; focus (intro w hSw; go_simp; try with_reducible rfl))
              simp only [Act.put, List.setIfInBounds_toArray, List.set_cons_zero, List.set_cons_succ]
              first | (refine reg_skip 17 (by rfl) (by kernel_rfl) (by kernel_rfl) (by kernel_rfl) (by exact fun _ _ _ h => h) (by rfl) ?_) | (refine reg_take 17 (v := ?_) (by rfl) (by kernel_rfl) (by kernel_rfl) (by kernel_rfl) (by exact fun _ _ _ h => h) (by rfl) ?_ ?_; rotate_left; focus (intro w hSw; go_simp; try with_reducible rfl))
              simp only [Act.put, List.setIfInBounds_toArray, List.set_cons_zero, List.set_cons_succ]
              first | (refine reg_skip 18 (by rfl) (by kernel_rfl) (by kernel_rfl) (by kernel_rfl) (by exact fun _ _ _ h => h) (by rfl) ?_) | (refine reg_take 18 (v := ?_) (by rfl) (by kernel_rfl) (by kernel_rfl) (by kernel_rfl) (by exact fun _ _ _ h => h) (by rfl) ?_ ?_; rotate_left; focus (intro w hSw; go_simp; try with_reducible rfl))
              simp only [Act.put, List.setIfInBounds_toArray, List.set_cons_zero, List.set_cons_succ]
              first | (refine reg_skip 19 (by rfl) (by kernel_rfl) (by kernel_rfl) (by kernel_rfl) (by exact fun _ _ _ h => h) (by rfl) ?_) | (refine reg_take 19 (v := ?_) (by rfl) (by kernel_rfl) (by kernel_rfl) (by kernel_rfl) (by exact fun _ _ _ h => h) (by rfl) ?_ ?_; rotate_left; focus (intro w hSw; go_simp; try with_reducible rfl))
              simp only [Act.put, List.setIfInBounds_toArray, List.set_cons_zero, List.set_cons_succ]
              first | (refine reg_skip 20 (by rfl) (by kernel_rfl) (by kernel_rfl) (by kernel_rfl) (by exact fun _ _ _ h => h) (by rfl) ?_) | (refine reg_take 20 (v := ?_) (by rfl) (by kernel_rfl) (by kernel_rfl) (by kernel_rfl) (by exact fun _ _ _ h => h) (by rfl) ?_ ?_; rotate_left; focus (intro w hSw; go_simp; try with_reducible rfl))
              simp only [Act.put, List.setIfInBounds_toArray, List.set_cons_zero, List.set_cons_succ]
              first | (refine reg_skip 21 (by rfl) (by kernel_rfl) (by kernel_rfl) (by kernel_rfl) (by exact fun _ _ _ h => h) (by rfl) ?_) | (refine reg_take 21 (v := ?_) (by rfl) (by kernel_rfl) (by kernel_rfl) (by kernel_rfl) (by exact fun _ _ _ h => h) (by rfl) ?_ ?_; rotate_left; focus (intro w hSw; go_simp; try with_reducible rfl))
              simp only [Act.put, List.setIfInBounds_toArray, List.set_cons_zero, List.set_cons_succ]
              first | (refine reg_skip 22 (by rfl) (by kernel_rfl) (by kernel_rfl) (by kernel_rfl) (by exact fun _ _ _ h => h) (by rfl) ?_) | (refine reg_take 22 (v := ?_) (by rfl) (by kernel_rfl) (by kernel_rfl) (by kernel_rfl) (by exact fun _ _ _ h => h) (by rfl) ?_ ?_; rotate_left; focus (intro w hSw; go_simp; try with_reducible rfl))
              simp only [Act.put, List.setIfInBounds_toArray, List.set_cons_zero, List.set_cons_succ]
              first | (refine reg_skip 23 (by rfl) (by kernel_rfl) (by kernel_rfl) (by kernel_rfl) (by exact fun _ _ _ h => h) (by rfl) ?_) | (refine reg_take 23 (v := ?_) (by rfl) (by kernel_rfl) (by kernel_rfl) (by kernel_rfl) (by exact fun _ _ _ h => h) (by rfl) ?_ ?_; rotate_left; focus (intro w hSw; go_simp; try with_reducible rfl))
              simp only [Act.put, List.setIfInBounds_toArray, List.set_cons_zero, List.set_cons_succ]
              first | (refine reg_skip 24 (by rfl) (by kernel_rfl) (by kernel_rfl) (by kernel_rfl) (by exact fun _ _ _ h => h) (by rfl) ?_) | (refine reg_take 24 (v := ?_) (by rfl) (by kernel_rfl) (by kernel_rfl) (by kernel_rfl) (by exact fun _ _ _ h => h) (by rfl) ?_ ?_; rotate_left; focus (intro w hSw; go_simp; try with_reducible rfl))
              simp only [Act.put, List.setIfInBounds_toArray, List.set_cons_zero, List.set_cons_succ]
              first | (refine reg_skip 25 (by rfl) (by kernel_rfl) (by kernel_rfl) (by kernel_rfl) (by exact fun _ _ _ h => h) (by rfl) ?_) | (refine reg_take 25 (v := ?_) (by rfl) (by kernel_rfl) (by kernel_rfl) (by kernel_rfl) (by exact fun _ _ _ h => h) (by rfl) ?_ ?_; rotate_left; focus (intro w hSw; go_simp; try with_reducible rfl))
              simp only [Act.put, List.setIfInBounds_toArray, List.set_cons_zero, List.set_cons_succ]
              first | (refine reg_skip 26 (by rfl) (by kernel_rfl) (by kernel_rfl) (by kernel_rfl) (by exact fun _ _ _ h => h) (by rfl) ?_) | (refine reg_take 26 (v := ?_) (by rfl) (by kernel_rfl) (by kernel_rfl) (by kernel_rfl) (by exact fun _ _ _ h => h) (by rfl) ?_ ?_; rotate_left; focus (intro w hSw; go_simp; try with_reducible rfl))
              simp only [Act.put, List.setIfInBounds_toArray, List.set_cons_zero, List.set_cons_succ]
              (refine reg_take 27 (v := ?_) (by rfl) (by kernel_rfl) (by kernel_rfl) (by kernel_rfl) (by exact fun _ _ _ h => h) (by rfl) ?_ ?_; rotate_left; focus (intro w hSw; go_simp; try with_reducible rfl))
              simp only [Act.put, List.setIfInBounds_toArray, List.set_cons_zero, List.set_cons_succ]
              (refine reg_take 28 (v := ?_) (by rfl) (by kernel_rfl) (by kernel_rfl) (by kernel_rfl) (by exact fun _ _ _ h => h) (by rfl) ?_ ?_; rotate_left; focus (intro w hSw; go_simp; try with_reducible rfl))
              simp only [Act.put, List.setIfInBounds_toArray, List.set_cons_zero, List.set_cons_succ]
              refine wpAnyH_done (by kernel_rfl) ?_ _
            rotate_left 1
            focus
              first | (refine step_loadB HXB.out (by rfl) 48 _ (by rfl) (by rfl) _ Try.underlying48 rfl (by rw [hzl.out]; kernel_rfl) ?_) | (refine step_loadB (goesBx.after HXB.out hb12) (by rfl) 48 _ (by rfl) (by rfl) _ Try.underlying48 rfl (by rw [hzl.out]; kernel_rfl) ?_)
              refine hK.out _ _ ((by unfold Aft; exact Below.refl _ _)) ?_
              clear hK K
              try simp only [Act.put, List.setIfInBounds_toArray, List.set_cons_zero, List.set_cons_succ]
              refine reg_call 8 (by kernel_rfl) (by rfl) (fun K hK => ?_)
              go_simp
              go_at_call 13; have hof := requestOf_any HQD.out HRL.out; rw [← HYS.out] at hof; refine hof.mono ?_; clear hof; rintro e w12 ⟨o12, z1, z2, ev12, al12, rfl, hq12, hb12⟩
              refine hK.out _ _ (hb12) ?_
              clear hK K
              try simp only [Act.put, List.setIfInBounds_toArray, List.set_cons_zero, List.set_cons_succ]
              refine reg_call 10 (by kernel_rfl) (by rfl) (fun K hK => ?_)
              go_simp
              go_at_call 16; have hsm := same8_any hq12 (goesRf.after HFD.out hb12); rw [← HZS.out] at hsm; refine hsm.mono ?_; clear hsm; rintro e w13 ⟨rfl, hb13⟩; have e16 := Aft.each (kcell hb13 (kcell hb12 (HXA.out.c 16 _ Y16.out))); have e11 := Aft.each (kcell hb13 (kcell hb12 (HXP.out.c 11 _ P11.out))); have e12 := Aft.each (kcell hb13 (kcell hb12 (HXP.out.c 12 _ P12.out)))
              refine hK.out _ _ (hb13) ?_
              clear hK K
              try simp only [Act.put, List.setIfInBounds_toArray, List.set_cons_zero, List.set_cons_succ]
              (refine reg_take 11 (v := ?_) (by rfl) (by kernel_rfl) (by kernel_rfl) (by kernel_rfl) (by exact fun _ _ _ h => h) (by rfl) ?_ ?_; rotate_left; focus (intro w hSw; go_simp; try with_reducible rfl))
              simp only [Act.put, List.setIfInBounds_toArray, List.set_cons_zero, List.set_cons_succ]
              (refine reg_take 12 (v := ?_) (by rfl) (by kernel_rfl) (by kernel_rfl) (by kernel_rfl) (by exact fun _ _ _ h => h) (by rfl) ?_ ?_; rotate_left; focus (intro w hSw; go_simp; try with_reducible rfl))
              simp only [Act.put, List.setIfInBounds_toArray, List.set_cons_zero, List.set_cons_succ]
              first | (refine reg_skip 13 (by rfl) (by kernel_rfl) (by kernel_rfl) (by kernel_rfl) (by exact fun _ _ _ h => h) (by rfl) ?_) | (refine reg_take 13 (v := ?_) (by rfl) (by kernel_rfl) (by kernel_rfl) (by kernel_rfl) (by exact fun _ _ _ h => h) (by rfl) ?_ ?_; rotate_left; focus (intro w hSw; go_simp; try with_reducible rfl))
              simp only [Act.put, List.setIfInBounds_toArray, List.set_cons_zero, List.set_cons_succ]
              first | (refine reg_skip 14 (by rfl) (by kernel_rfl) (by kernel_rfl) (by kernel_rfl) (by exact fun _ _ _ h => h) (by rfl) ?_) | (refine reg_take 14 (v := ?_) (by rfl) (by kernel_rfl) (by kernel_rfl) (by kernel_rfl) (by exact fun _ _ _ h => h) (by rfl) ?_ ?_; rotate_left; focus (intro w hSw; go_simp; try with_reducible rfl))
              simp only [Act.put, List.setIfInBounds_toArray, List.set_cons_zero, List.set_cons_succ]
              first | (refine reg_skip 15 (by rfl) (by kernel_rfl) (by kernel_rfl) (by kernel_rfl) (by exact fun _ _ _ h => h) (by rfl) ?_) | (refine reg_take 15 (v := ?_) (by rfl) (by kernel_rfl) (by kernel_rfl) (by kernel_rfl) (by exact fun _ _ _ h => h) (by rfl) ?_ ?_; rotate_left; focus (intro w hSw; go_simp; try with_reducible rfl))
              simp only [Act.put, List.setIfInBounds_toArray, List.set_cons_zero, List.set_cons_succ]
              first | (refine reg_skip 16 (by rfl) (by kernel_rfl) (by kernel_rfl) (by kernel_rfl) (by exact fun _ _ _ h => h) (by rfl) ?_) | (refine reg_take 16 (v := ?_) (by rfl) (by kernel_rfl) (by kernel_rfl) (by kernel_rfl) (by exact fun _ _ _ h => h) (by rfl) ?_ ?_; rotate_left; focus (intro w hSw; go_simp; try with_reducible rfl))
              simp only [Act.put, List.setIfInBounds_toArray, List.set_cons_zero, List.set_cons_succ]
              first | (refine reg_skip 17 (by rfl) (by kernel_rfl) (by kernel_rfl) (by kernel_rfl) (by exact fun _ _ _ h => h) (by rfl) ?_) | (refine reg_take 17 (v := ?_) (by rfl) (by kernel_rfl) (by kernel_rfl) (by kernel_rfl) (by exact fun _ _ _ h => h) (by rfl) ?_ ?_; rotate_left; focus (intro w hSw; go_simp; try with_reducible rfl))
              simp only [Act.put, List.setIfInBounds_toArray, List.set_cons_zero, List.set_cons_succ]
              first | (refine reg_skip 18 (by rfl) (by kernel_rfl) (by kernel_rfl) (by kernel_rfl) (by exact fun _ _ _ h => h) (by rfl) ?_) | (refine reg_take 18 (v := ?_) (by rfl) (by kernel_rfl) (by kernel_rfl) (by kernel_rfl) (by exact fun _ _ _ h => h) (by rfl) ?_ ?_; rotate_left; focus (intro w hSw; go_simp; try with_reducible rfl))
              simp only [Act.put, List.setIfInBounds_toArray, List.set_cons_zero, List.set_cons_succ]
              first | (refine reg_skip 19 (by rfl) (by kernel_rfl) (by kernel_rfl) (by kernel_rfl) (by exact fun _ _ _ h => h) (by rfl) ?_) | (refine reg_take 19 (v := ?_) (by rfl) (by kernel_rfl) (by kernel_rfl) (by kernel_rfl) (by exact fun _ _ _ h => h) (by rfl) ?_ ?_; rotate_left; focus (intro w hSw; go_simp; try with_reducible rfl))
              simp only [Act.put, List.setIfInBounds_toArray, List.set_cons_zero, List.set_cons_succ]
              first | (refine reg_skip 20 (by rfl) (by kernel_rfl) (by kernel_rfl) (by kernel_rfl) (by exact fun _ _ _ h => h) (by rfl) ?_) | (refine reg_take 20 (v := ?_) (by rfl) (by kernel_rfl) (by kernel_rfl) (by kernel_rfl) (by exact fun _ _ _ h => h) (by rfl) ?_ ?_; rotate_left; focus (intro w hSw; go_simp; try with_reducible rfl))
              simp only [Act.put, List.setIfInBounds_toArray, List.set_cons_zero, List.set_cons_succ]
              first | (refine reg_skip 21 (by rfl) (by kernel_rfl) (by kernel_rfl) (by kernel_rfl) (by exact fun _ _ _ h => h) (by rfl) ?_) | (refine reg_take 21 (v := ?_) (by rfl) (by kernel_rfl) (by kernel_rfl) (by kernel_rfl) (by exact fun _ _ _ h => h) (by rfl) ?_ ?_; rotate_left; focus (intro w hSw; go_simp; try with_reducible rfl))
              simp only [Act.put, List.setIfInBounds_toArray, List.set_cons_zero, List.set_cons_succ]
              first | (refine reg_skip 22 (by rfl) (by kernel_rfl) (by kernel_rfl) (by kernel_rfl) (by exact fun _ _ _ h => h) (by rfl) ?_) | (refine reg_take 22 (v := ?_) (by rfl) (by kernel_rfl) (by kernel_rfl) (by kernel_rfl) (by exact fun _ _ _ h => h) (by rfl) ?_ ?_; rotate_left; focus (intro w hSw; go_simp; try with_reducible rfl))
              simp only [Act.put, List.setIfInBounds_toArray, List.set_cons_zero, List.set_cons_succ]
              first | (refine reg_skip 23 (by rfl) (by kernel_rfl) (by kernel_rfl) (by kernel_rfl) (by exact fun _ _ _ h => h) (by rfl) ?_) | (refine reg_take 23 (v := ?_) (by rfl) (by kernel_rfl) (by kernel_rfl) (by kernel_rfl) (by exact fun _ _ _ h => h) (by rfl) ?_ ?_; rotate_left; focus (intro w hSw; go_simp; try with_reducible rfl))
              simp only [Act.put, List.setIfInBounds_toArray, List.set_cons_zero, List.set_cons_succ]
              first | (refine reg_skip 24 (by rfl) (by kernel_rfl) (by kernel_rfl) (by kernel_rfl) (by exact fun _ _ _ h => h) (by rfl) ?_) | (refine reg_take 24 (v := ?_) (by rfl) (by kernel_rfl) (by kernel_rfl) (by kernel_rfl) (by exact fun _ _ _ h => h) (by rfl) ?_ ?_; rotate_left; focus (intro w hSw; go_simp; try with_reducible rfl))
              simp only [Act.put, List.setIfInBounds_toArray, List.set_cons_zero, List.set_cons_succ]
              first | (refine reg_skip 25 (by rfl) (by kernel_rfl) (by kernel_rfl) (by kernel_rfl) (by exact fun _ _ _ h => h) (by rfl) ?_) | (refine reg_take 25 (v := ?_) (by rfl) (by kernel_rfl) (by kernel_rfl) (by kernel_rfl) (by exact fun _ _ _ h => h) (by rfl) ?_ ?_; rotate_left; focus (intro w hSw; go_simp; try with_reducible rfl))
              simp only [Act.put, List.setIfInBounds_toArray, List.set_cons_zero, List.set_cons_succ]
              first | (refine reg_skip 26 (by rfl) (by kernel_rfl) (by kernel_rfl) (by kernel_rfl) (by exact fun _ _ _ h => h) (by rfl) ?_) | (refine reg_take 26 (v := ?_) (by rfl) (by kernel_rfl) (by kernel_rfl) (by kernel_rfl) (by exact fun _ _ _ h => h) (by rfl) ?_ ?_; rotate_left; focus (intro w hSw; go_simp; try with_reducible rfl))
              simp only [Act.put, List.setIfInBounds_toArray, List.set_cons_zero, List.set_cons_succ]
              (refine reg_take 27 (v := ?_) (by rfl) (by kernel_rfl) (by kernel_rfl) (by kernel_rfl) (by exact fun _ _ _ h => h) (by rfl) ?_ ?_; rotate_left; focus (intro w hSw; go_simp; try with_reducible rfl))
              simp only [Act.put, List.setIfInBounds_toArray, List.set_cons_zero, List.set_cons_succ]
              (refine reg_take 28 (v := ?_) (by rfl) (by kernel_rfl) (by kernel_rfl) (by kernel_rfl) (by exact fun _ _ _ h => h) (by rfl) ?_ ?_; rotate_left; focus (intro w hSw; go_simp; try with_reducible rfl))
              simp only [Act.put, List.setIfInBounds_toArray, List.set_cons_zero, List.set_cons_succ]
              refine wpAnyH_done (by kernel_rfl) ?_ _
          rotate_left 2
          focus
            first | (refine step_loadB HXB.out (by rfl) 48 _ (by rfl) (by rfl) _ Try.underlying48 rfl (by rw [hzl.out]; kernel_rfl) ?_) | (refine step_loadB (goesBx.after HXB.out hb12) (by rfl) 48 _ (by rfl) (by rfl) _ Try.underlying48 rfl (by rw [hzl.out]; kernel_rfl) ?_)
            refine hK.out _ _ ((by unfold Aft; exact Below.refl _ _)) ?_
            clear hK K
            try simp only [Act.put, List.setIfInBounds_toArray, List.set_cons_zero, List.set_cons_succ]
            refine reg_call 7 (by kernel_rfl) (by rfl) (fun K hK => ?_)
            refine step_loadB HXA.out (by rfl) 33 _ (by rfl) (by rfl) _ Try.underlying33 rfl (by rw [hyl.out]; kernel_rfl) ?_
            refine hK.out _ _ ((by unfold Aft; exact Below.refl _ _)) ?_
            clear hK K
            try simp only [Act.put, List.setIfInBounds_toArray, List.set_cons_zero, List.set_cons_succ]
            refine reg_call 8 (by kernel_rfl) (by rfl) (fun K hK => ?_)
            go_simp
            go_at_call 13; have hof := requestOf_any HQD.out HRL.out; rw [← HYS.out] at hof; refine hof.mono ?_; clear hof; rintro e w12 ⟨o12, z1, z2, ev12, al12, rfl, hq12, hb12⟩
            refine hK.out _ _ (hb12) ?_
            clear hK K
            try simp only [Act.put, List.setIfInBounds_toArray, List.set_cons_zero, List.set_cons_succ]
            refine reg_call 10 (by kernel_rfl) (by rfl) (fun K hK => ?_)
            go_simp
            go_at_call 16; have hsm := same8_any hq12 (goesRf.after HFD.out hb12); rw [← HZS.out] at hsm; refine hsm.mono ?_; clear hsm; rintro e w13 ⟨rfl, hb13⟩; have e16 := Aft.each (kcell hb13 (kcell hb12 (HXA.out.c 16 _ Y16.out))); have e11 := Aft.each (kcell hb13 (kcell hb12 (HXP.out.c 11 _ P11.out))); have e12 := Aft.each (kcell hb13 (kcell hb12 (HXP.out.c 12 _ P12.out)))
            refine hK.out _ _ (hb13) ?_
            clear hK K
            try simp only [Act.put, List.setIfInBounds_toArray, List.set_cons_zero, List.set_cons_succ]
            (refine reg_take 11 (v := ?_) (by rfl) (by kernel_rfl) (by kernel_rfl) (by kernel_rfl) (by exact fun _ _ _ h => h) (by rfl) ?_ ?_; rotate_left; focus (intro w hSw; go_simp; try with_reducible rfl))
            simp only [Act.put, List.setIfInBounds_toArray, List.set_cons_zero, List.set_cons_succ]
            (refine reg_take 12 (v := ?_) (by rfl) (by kernel_rfl) (by kernel_rfl) (by kernel_rfl) (by exact fun _ _ _ h => h) (by rfl) ?_ ?_; rotate_left; focus (intro w hSw; go_simp; try with_reducible rfl))
            simp only [Act.put, List.setIfInBounds_toArray, List.set_cons_zero, List.set_cons_succ]
            first | (refine reg_skip 13 (by rfl) (by kernel_rfl) (by kernel_rfl) (by kernel_rfl) (by exact fun _ _ _ h => h) (by rfl) ?_) | (refine reg_take 13 (v := ?_) (by rfl) (by kernel_rfl) (by kernel_rfl) (by kernel_rfl) (by exact fun _ _ _ h => h) (by rfl) ?_ ?_; rotate_left; focus (intro w hSw; go_simp; try with_reducible rfl))
            simp only [Act.put, List.setIfInBounds_toArray, List.set_cons_zero, List.set_cons_succ]
            first | (refine reg_skip 14 (by rfl) (by kernel_rfl) (by kernel_rfl) (by kernel_rfl) (by exact fun _ _ _ h => h) (by rfl) ?_) | (refine reg_take 14 (v := ?_) (by rfl) (by kernel_rfl) (by kernel_rfl) (by kernel_rfl) (by exact fun _ _ _ h => h) (by rfl) ?_ ?_; rotate_left; focus (intro w hSw; go_simp; try with_reducible rfl))
            simp only [Act.put, List.setIfInBounds_toArray, List.set_cons_zero, List.set_cons_succ]
            first | (refine reg_skip 15 (by rfl) (by kernel_rfl) (by kernel_rfl) (by kernel_rfl) (by exact fun _ _ _ h => h) (by rfl) ?_) | (refine reg_take 15 (v := ?_) (by rfl) (by kernel_rfl) (by kernel_rfl) (by kernel_rfl) (by exact fun _ _ _ h => h) (by rfl) ?_ ?_; rotate_left; focus (intro w hSw; go_simp; try with_reducible rfl))
            simp only [Act.put, List.setIfInBounds_toArray, List.set_cons_zero, List.set_cons_succ]
            first | (refine reg_skip 16 (by rfl) (by kernel_rfl) (by kernel_rfl) (by kernel_rfl) (by exact fun _ _ _ h => h) (by rfl) ?_) | (refine reg_take 16 (v := ?_) (by rfl) (by kernel_rfl) (by kernel_rfl) (by kernel_rfl) (by exact fun _ _ _ h => h) (by rfl) ?_ ?_; rotate_left; focus (intro w hSw; go_simp; try with_reducible rfl))
            simp only [Act.put, List.setIfInBounds_toArray, List.set_cons_zero, List.set_cons_succ]
            first | (refine reg_skip 17 (by rfl) (by kernel_rfl) (by kernel_rfl) (by kernel_rfl) (by exact fun _ _ _ h => h) (by rfl) ?_) | (refine reg_take 17 (v := ?_) (by rfl) (by kernel_rfl) (by kernel_rfl) (by kernel_rfl) (by exact fun _ _ _ h => h) (by rfl) ?_ ?_; rotate_left; focus (intro w hSw; go_simp; try with_reducible rfl))
            simp only [Act.put, List.setIfInBounds_toArray, List.set_cons_zero, List.set_cons_succ]
            first | (refine reg_skip 18 (by rfl) (by kernel_rfl) (by kernel_rfl) (by kernel_rfl) (by exact fun _ _ _ h => h) (by rfl) ?_) | (refine reg_take 18 (v := ?_) (by rfl) (by kernel_rfl) (by kernel_rfl) (by kernel_rfl) (by exact fun _ _ _ h => h) (by rfl) ?_ ?_; rotate_left; focus (intro w hSw; go_simp; try with_reducible rfl))
            simp only [Act.put, List.setIfInBounds_toArray, List.set_cons_zero, List.set_cons_succ]
            first | (refine reg_skip 19 (by rfl) (by kernel_rfl) (by kernel_rfl) (by kernel_rfl) (by exact fun _ _ _ h => h) (by rfl) ?_) | (refine reg_take 19 (v := ?_) (by rfl) (by kernel_rfl) (by kernel_rfl) (by kernel_rfl) (by exact fun _ _ _ h => h) (by rfl) ?_ ?_; rotate_left; focus (intro w hSw; go_simp; try with_reducible rfl))
            simp only [Act.put, List.setIfInBounds_toArray, List.set_cons_zero, List.set_cons_succ]
            first | (refine reg_skip 20 (by rfl) (by kernel_rfl) (by kernel_rfl) (by kernel_rfl) (by exact fun _ _ _ h => h) (by rfl) ?_) | (refine reg_take 20 (v := ?_) (by rfl) (by kernel_rfl) (by kernel_rfl) (by kernel_rfl) (by exact fun _ _ _ h => h) (by rfl) ?_ ?_; rotate_left; focus (intro w hSw; go_simp; try with_reducible rfl))
            simp only [Act.put, List.setIfInBounds_toArray, List.set_cons_zero, List.set_cons_succ]
            first | (refine reg_skip 21 (by rfl) (by kernel_rfl) (by kernel_rfl) (by kernel_rfl) (by exact fun _ _ _ h => h) (by rfl) ?_) | (refine reg_take 21 (v := ?_) (by rfl) (by kernel_rfl) (by kernel_rfl) (by kernel_rfl) (by exact fun _ _ _ h => h) (by rfl) ?_ ?_; rotate_left; focus (intro w hSw; go_simp; try with_reducible rfl))
            simp only [Act.put, List.setIfInBounds_toArray, List.set_cons_zero, List.set_cons_succ]
            first | (refine reg_skip 22 (by rfl) (by kernel_rfl) (by kernel_rfl) (by kernel_rfl) (by exact fun _ _ _ h => h) (by rfl) ?_) | (refine reg_take 22 (v := ?_) (by rfl) (by kernel_rfl) (by kernel_rfl) (by kernel_rfl) (by exact fun _ _ _ h => h) (by rfl) ?_ ?_; rotate_left; focus (intro w hSw; go_simp; try with_reducible rfl))
            simp only [Act.put, List.setIfInBounds_toArray, List.set_cons_zero, List.set_cons_succ]
            first | (refine reg_skip 23 (by rfl) (by kernel_rfl) (by kernel_rfl) (by kernel_rfl) (by exact fun _ _ _ h => h) (by rfl) ?_) | (refine reg_take 23 (v := ?_) (by rfl) (by kernel_rfl) (by kernel_rfl) (by kernel_rfl) (by exact fun _ _ _ h => h) (by rfl) ?_ ?_; rotate_left; focus (intro w hSw; go_simp; try with_reducible rfl))
            simp only [Act.put, List.setIfInBounds_toArray, List.set_cons_zero, List.set_cons_succ]
            first | (refine reg_skip 24 (by rfl) (by kernel_rfl) (by kernel_rfl) (by kernel_rfl) (by exact fun _ _ _ h => h) (by rfl) ?_) | (refine reg_take 24 (v := ?_) (by rfl) (by kernel_rfl) (by kernel_rfl) (by kernel_rfl) (by exact fun _ _ _ h => h) (by rfl) ?_ ?_; rotate_left; focus (intro w hSw; go_simp; try with_reducible rfl))
            simp only [Act.put, List.setIfInBounds_toArray, List.set_cons_zero, List.set_cons_succ]
            first | (refine reg_skip 25 (by rfl) (by kernel_rfl) (by kernel_rfl) (by kernel_rfl) (by exact fun _ _ _ h => h) (by rfl) ?_) | (refine reg_take 25 (v := ?_) (by rfl) (by kernel_rfl) (by kernel_rfl) (by kernel_rfl) (by exact fun _ _ _ h => h) (by rfl) ?_ ?_; rotate_left; focus (intro w hSw; go_simp; try with_reducible rfl))
            simp only [Act.put, List.setIfInBounds_toArray, List.set_cons_zero, List.set_cons_succ]
            first | (refine reg_skip 26 (by rfl) (by kernel_rfl) (by kernel_rfl) (by kernel_rfl) (by exact fun _ _ _ h => h) (by rfl) ?_) | (refine reg_take 26 (v := ?_) (by rfl) (by kernel_rfl) (by kernel_rfl) (by kernel_rfl) (by exact fun _ _ _ h => h) (by rfl) ?_ ?_; rotate_left; focus (intro w hSw; go_simp; try with_reducible rfl))
            simp only [Act.put, List.setIfInBounds_toArray, List.set_cons_zero, List.set_cons_succ]
            (refine reg_take 27 (v := ?_) (by rfl) (by kernel_rfl) (by kernel_rfl) (by kernel_rfl) (by exact fun _ _ _ h => h) (by rfl) ?_ ?_; rotate_left; focus (intro w hSw; go_simp; try with_reducible rfl))
            simp only [Act.put, List.setIfInBounds_toArray, List.set_cons_zero, List.set_cons_succ]
            (refine reg_take 28 (v := ?_) (by rfl) (by kernel_rfl) (by kernel_rfl) (by kernel_rfl) (by exact fun _ _ _ h => h) (by rfl) ?_ ?_; rotate_left; focus (intro w hSw; go_simp; try with_reducible rfl))
            simp only [Act.put, List.setIfInBounds_toArray, List.set_cons_zero, List.set_cons_succ]
            refine wpAnyH_done (by kernel_rfl) ?_ _
          all_goals
            have HB13 : Hid (Below w.heap.size w w13) := Lib.hid (HB11.out.trans (((Below.refl w11.heap.size w11).drew.trans (hb12.trans (hb13.mono hb12.size))).mono hz11))
            clear hb12 hb13 e16 e11 e12
            go_wp2_with fail
            go_ret
            exact ⟨by simp, HB13.out⟩
end Go.Proofs.Sb
