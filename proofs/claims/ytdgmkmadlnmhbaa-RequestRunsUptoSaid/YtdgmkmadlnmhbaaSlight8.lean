/- The walk over signalboxlaw08.slightR: is a request small enough. Conditions: lengths up to 2^20. -/
import Derived.Test.YtdgmkmadlnmhbaaArgsr
import Derived.Test.YtdgmkmadlnmhbaaRqp
set_option linter.unusedVariables false
set_option linter.unusedSimpArgs false
namespace Sb
def cntQs (q : Rq) : Nat := q.options.length + q.events.length + q.all.length + q.run.values.length + q.run.names.length
theorem cntS_nil : cntS [] = 0 := rfl
theorem cntS_take {l : List Stm} {k : Nat} {x : Stm} (h : l[k]? = some x) : cntS (l.take (k + 1)) = cntS (l.take k) + x.values.length := by
  unfold cntS
  rw [List.take_add_one, h]
  simp
/-- a request that is small enough is light -/
theorem light_of {q : Rq} (h : RqB 1048576 q) (hc : cntQs q + cntS q.all < 100) : costQ q ≤ 1000000000 := by
  unfold cntQs at hc
  have h1 := els_few (names := q.run.names) h.run.values
  have h2 := costA_few (M := 1048576) (l := q.all) fun x hx => ⟨(h.all x hx).1, (h.all x hx).2.1, (h.all x hx).2.2.1⟩
  have h3 : q.run.values.length * (65541 + 1048576) ≤ 100 * (65541 + 1048576) := Nat.mul_le_mul_right _ (by omega)
  have h4 : (q.all.length + 2 * cntS q.all) * (65600 + 2 * 1048576) ≤ 200 * (65600 + 2 * 1048576) := Nat.mul_le_mul_right _ (by omega)
  have h5 := h.run.state
  have h6 := h.text
  have h7 := h.ident
  have h8 := h.token
  unfold costQ costR
  omega
theorem rq31_of {q : Rq} (h : RqB 1048576 q) (hn : ParN q.run) : Rq31 q :=
  ⟨by have := h.text; unfold short31; omega, ⟨fun v hv => by have := h.run.values v hv; unfold val31; omega, by have := h.run.state; unfold val31; omega⟩, hn, by have := h.token; unfold val31; omega,
    fun x hx => ⟨by have := (h.all x hx).1; unfold short31; omega, fun v hv => by have := (h.all x hx).2.2.1 v hv; unfold val31; omega⟩⟩
end Sb
namespace Go.Proofs.Sb
open Go.RowKit _root_.Sb
set_option maxHeartbeats 4000000 in
set_option maxRecDepth 100000 in
theorem slight8_any {S : Nat → Prop} {w : World} {q : Rq} {o i r1 r2 r3 ev t al : Slc} (hq : RqR S w q o i r1 r2 r3 ev t al) (hb : RqB 1048576 q) :
    Calls Try.prog 10 #[.agg (rqV q o i r1 r2 r3 ev t al).toArray] w fun e w' => ∃ β : Bool, e = .returned (.bool β) ∧ (β = true → cntQs q + cntS q.all < 100) ∧ Below w.heap.size w w' := by
  obtain ⟨op, opts, tx, idn, run, evs, tok, kd, all⟩ := q
  have HP := Lib.hid (goesRq.mono (S' := fun b => S b ∧ b < w.heap.size) hq fun b h1 h2 => ⟨h1, h2⟩); clear hq
  have n1 := HP.out.options.len
  have n2 := HP.out.events.len
  have n3 := HP.out.all.len
  have n4 := HP.out.run.values.len
  have n5 := HP.out.run.names.len
  have m1 := hb.nopts
  have m2 := hb.nevs
  have m3 := hb.nall
  have m4 := hb.run.nvals
  have m5 := hb.run.nnames
  dsimp only at n1 n2 n3 n4 n5 m1 m2 m3 m4 m5
  obtain ⟨oA, on, oc⟩ := o
  obtain ⟨eA, en, ec⟩ := ev
  obtain ⟨aA, an, ac⟩ := al
  obtain ⟨vA, vn, vc⟩ := r1
  obtain ⟨nA, nn, nc⟩ := r2
  dsimp only at n1 n2 n3 n4 n5
  have j1 : on ≤ 1048576 := by omega
  have j2 : en ≤ 1048576 := by omega
  have j3 : an ≤ 1048576 := by omega
  have j4 : vn ≤ 1048576 := by omega
  have j5 : nn ≤ 1048576 := by omega
  obtain ⟨bs, hbs⟩ : ∃ bs, bs = on + en + an + vn + nn := ⟨_, rfl⟩
  have HC : Hid (cntQs ⟨op, opts, tx, idn, run, evs, tok, kd, all⟩ = bs) := Lib.hid (by unfold cntQs; dsimp only; omega)
  have HBS := Lib.hid hbs; clear hbs
  have HN3 := Lib.hid n3
  have HX : Hid (∀ x ∈ all, x.values.length ≤ 1048576) := Lib.hid fun x hx => (hb.all x hx).2.2.2
  clear n1 n2 n3 n4 n5 m1 m2 m3 m4 m5 hb
  simp only [rqV]
  go_enter Try.func10, Try.ntmps10
  go_upto_block 0 with fail
  obtain ⟨w1, hw1⟩ : ∃ w1, w1 = w.alloc (.cells [.int .u8 (op : Int), .slice oA on oc, .string (str tx), .slice i.a i.n i.c, .int .u16 (run.cons : Int), .slice vA vn vc, .slice nA nn nc, .bool run.skip, .bool run.paged, .int .i32 run.page, .bool run.resumed, .int .i64 run.state.kind, .slice r3.a r3.n r3.c, .bool run.serially, .int .u16 (run.serial : Int), .bool run.timed, .int .i64 run.time, .slice eA en ec, .int .i64 tok.kind, .slice t.a t.n t.c, .int .u8 (kd : Int), .slice aA an ac].toArray 33) := ⟨_, rfl⟩
  rw [← hw1]
  have hB1 : Below w.heap.size w w1 := by rw [hw1]; exact (Below.refl _ _).alloc (Nat.le_refl _) _
  have hbx : Bx (fun b => b = w.heap.size) w1 w.heap.size [.int .u8 (op : Int), .slice oA on oc, .string (str tx), .slice i.a i.n i.c, .int .u16 (run.cons : Int), .slice vA vn vc, .slice nA nn nc, .bool run.skip, .bool run.paged, .int .i32 run.page, .bool run.resumed, .int .i64 run.state.kind, .slice r3.a r3.n r3.c, .bool run.serially, .int .u16 (run.serial : Int), .bool run.timed, .int .i64 run.time, .slice eA en ec, .int .i64 tok.kind, .slice t.a t.n t.c, .int .u8 (kd : Int), .slice aA an ac] := by
    rw [hw1]; exact Bx.alloc w _ 33 (S := fun b => b = w.heap.size) rfl rfl
  have k1 := hbx.c 1 _ rfl
  have k5 := hbx.c 5 _ rfl
  have k6 := hbx.c 6 _ rfl
  have k17 := hbx.c 17 _ rfl
  have k21 := hbx.c 21 _ rfl
  have HP1 := Lib.hid (goesRq.after HP.out hB1)
  have HB1 := Lib.hid hB1; clear hB1 hw1 hbx HP
  go_wp2_with fail
  go_loopw [3, 4] (fun n i wr => ∃ k m : Nat, k ≤ an ∧ m ≤ 7000000 ∧ n = .int .i64 (m : Nat) ∧ i = .int .i64 (k : Nat) ∧ Hid (m = bs + cntS (all.take k)) ∧ w1 = wr) (fun _ i _ => an - (intOf i).toNat)
  case atStart => exact ⟨0, bs, by omega, by have := HBS.out; omega, by rw [HBS.out]; go_num, rfl, Lib.hid rfl, rfl⟩
  case round =>
    obtain ⟨k, m, hk, hm, rfl, rfl, HM, rfl⟩ := hrel
    by_cases hlt : k < an
    · by_cases hsm : m < 100
      · obtain ⟨x, hx⟩ : ∃ x, all[k]? = some x := ⟨_, List.getElem?_eq_getElem (by have := HN3.out; omega)⟩
        obtain ⟨b, of, rfl, hSb, hbz, HQ⟩ := HP1.out.all.at (by decide) (by dsimp only; omega)
        obtain ⟨v, hv1, hp, hv2⟩ := HQ k x hx
        obtain ⟨A2, n2, c2, A3, n3, c3, rfl, hxl, hid', hvl⟩ := hp
        have hn3 := hvl.len
        have hx3 := HX.out x (List.mem_of_getElem? hx)
        have h3 : n3 ≤ 1048576 := by omega
        have hc3 := hv2 3 _ rfl
        have HX1 : Hid (m + n3 = bs + cntS (all.take (k + 1))) := Lib.hid (by rw [cntS_take hx, HM.out]; omega)
        clear hv1 hv2 HQ hid' hvl hx3 hn3
        go_wp2_with fail
        refine ⟨⟨k + 1, m + n3, by omega, by omega, by go_num, by go_num, HX1, trivial⟩, by simp [intOf]; omega⟩
      · go_wp2_with fail
        go_ret
        exact ⟨_, rfl, fun h => by simp at h; omega, HB1.out⟩
    · obtain rfl : k = an := by omega
      have hall : all.take k = all := List.take_of_length_le (by have := HN3.out; omega)
      rw [hall] at HM
      go_wp2_with fail
      go_ret
      exact ⟨_, rfl, fun h => by simp at h; rw [HC.out]; have := HM.out; omega, HB1.out⟩
end Go.Proofs.Sb
