/- The walk over signalboxlaw09.slight: is a reply small enough; what a small one is bound by. Conditions: lengths up to 2^20. -/
import Derived.Test.YtfeeeighafflnaaArgsy
import Derived.Test.YtfeeeighafflnaaStn
import Derived.Deep.DeepCutAuto
import Derived.Deep.CutBlock
set_option linter.unusedVariables false
set_option linter.unusedSimpArgs false
namespace Sb
open Go.Proofs.Sb
def cntM (l : List (B × List B)) : Nat := (l.map fun y => y.2.length).sum
def cntP (x : Rp) : Nat := x.fault.args.length + x.support.length + x.change.args.length + x.note.schema.args.length
theorem cntM_take {l : List (B × List B)} {k : Nat} {x : B × List B} (h : l[k]? = some x) : cntM (l.take (k + 1)) = cntM (l.take k) + x.2.length := by
  unfold cntM
  rw [List.take_add_one, h]
  simp
theorem cntM_mem {l : List (B × List B)} {x : B × List B} (h : x ∈ l) : x.2.length ≤ cntM l := by
  induction l with
  | nil => cases h
  | cons y l ih =>
    have e : cntM (y :: l) = y.2.length + cntM l := by simp [cntM]
    rcases List.mem_cons.1 h with rfl | h
    · omega
    · have := ih h; omega
theorem textsS_len (l : List B) : lenS (texts l) ≤ 2 + l.length * 65537 := by
  cases h : texts l with
  | error e => exact Nat.zero_le _
  | ok b => exact (putL_len (M := 65537) (fun x _ b hb => (text_len hb).1) h).2
theorem textsS_few {l : List B} (h : l.length < 100) : lenS (texts l) ≤ 6600000 := by
  have := textsS_len l
  have h2 : l.length * 65537 ≤ 100 * 65537 := Nat.mul_le_mul_right _ (by omega)
  omega
theorem multi_few {y : B × List B} (h : y.2.length < 100) : ∀ b, multiW y = .ok b → b.length ≤ 6700000 := by
  intro b hb
  have := lenS_le (textS_len y.1) (textsS_few h)
  have e : lenS (multiW y) = b.length := by rw [hb]; rfl
  have e2 : lenS (multiW y) = lenS (bothW (text y.1) (texts y.2)) := rfl
  omega
theorem cntsS_len (f : Flt) (r : Wr) : lenS (cntsW f r) ≤ 10 + lenS r := by
  have := lenS_le (consS_len f.level) (lenS_le (num4S_len f.received) (lenS_le (num4S_len f.needed) (Nat.le_refl (lenS r))))
  unfold cntsW
  omega
theorem fltTS_len (f : Flt) : lenS (fltTW f) ≤ 131090 + lenS (texts f.args) := by
  unfold fltTW
  split
  · have := lenS_le (consS_len f.level) (lenS_le (num4S_len f.needed) (num4S_len f.received)); omega
  split
  · have := cntsS_len f (text f.write); have := textS_len f.write; omega
  split
  · have := cntsS_len f (.ok (enc 1 f.data)); have := encS_len 1 f.data; omega
  split
  · have := cntsS_len f (bothW (num4W f.failures) (.ok (enc 1 f.data))); have := lenS_le (num4S_len f.failures) (Nat.le_of_eq (encS_len 1 f.data)); omega
  split
  · have := cntsS_len f (bothW (num4W f.failures) (text f.write)); have := lenS_le (num4S_len f.failures) (textS_len f.write); omega
  split
  · have := lenS_le (textS_len f.space) (lenS_le (textS_len f.name) (Nat.le_refl (lenS (texts f.args)))); omega
  split
  · have := lenS_le (textS_len f.space) (textS_len f.name); omega
  split
  · have := textS_len f.ident; omega
  · show 0 ≤ _; omega
/-- a small reply -/
structure RpS (x : Rp) : Prop where
  cnt : cntP x + cntM x.support < 100
  rest : x.rest.length < 1000
theorem small_B {x : Rp} (h : RpA 1048576 x) (s : RpS x) : RpB x := by
  have hc := s.cnt
  unfold cntP at hc
  have h1 := textsS_few (l := x.fault.args) (by omega)
  have h2 := textsS_few (l := x.note.schema.args) (by omega)
  have h3 := textsS_few (l := x.change.args) (by omega)
  have h4 := s.rest
  have h5 := h.token
  have h6 := h.addr
  exact ⟨h.op, h.flt, strOk_of h.text (by decide), h.kind, h.what, h.port, by omega, h.sch, h.rkind, h.chg, strOk_of h.ident (by decide), by omega, by omega, by omega, by omega, by omega⟩
theorem small_M {x : Rp} (s : RpS x) : (∀ y ∈ x.support, ∀ b, multiW y = .ok b → b.length ≤ 6700000) ∧ 2 + x.support.length * 6700000 ≤ 700000000 := by
  have hc := s.cnt
  unfold cntP at hc
  refine ⟨fun y hy => multi_few (by have := cntM_mem hy; omega), ?_⟩
  have h2 : x.support.length * 6700000 ≤ 100 * 6700000 := Nat.mul_le_mul_right _ (by omega)
  omega
theorem small_Q {x : Rp} (s : RpS x) : ∃ M, (∀ y ∈ x.support, ∀ b, multiW y = .ok b → b.length ≤ M) ∧ 2 + x.support.length * M ≤ 140737488000000 := ⟨6700000, (small_M s).1, Nat.le_trans (small_M s).2 (by decide)⟩
theorem small_len {x : Rp} (h : RpA 1048576 x) (s : RpS x) : lenS (putRp x) ≤ 2000000000 := by
  have hc := s.cnt
  unfold cntP at hc
  have h1 := textsS_few (l := x.fault.args) (by omega)
  have h2 := textsS_few (l := x.note.schema.args) (by omega)
  have h3 := textsS_few (l := x.change.args) (by omega)
  have h4 := s.rest
  have h5 := h.token
  have c1 := chgS_len x.note.schema
  have c2 := chgS_len x.change
  have hm := small_M s
  unfold putRp
  split
  · have := lenS_le (Nat.le_of_eq (encS_len 4 x.fault.code)) (lenS_le (textS_len x.fault.text) (fltTS_len x.fault))
    unfold fltW
    omega
  split
  · show 0 ≤ _; omega
  split
  · have := textS_len x.text; omega
  split
  · cases hp : putL multiW x.support with
    | error e => exact Nat.zero_le _
    | ok b => have := (putL_len hm.1 hp).2; show b.length ≤ _; omega
  split
  · have ht : lenS (resTW x) ≤ 100000000 := by
      unfold resTW
      split
      · show 0 ≤ _; omega
      split
      · have := textS_len x.text; omega
      split
      · omega
      split
      · have := lenS_le (textS_len x.ident) (Nat.le_refl (lenS (.ok x.rest))); have e : lenS (.ok x.rest) = x.rest.length := rfl; omega
      split
      · show x.rest.length ≤ _; omega
      · show 0 ≤ _; omega
    have := lenS_le (Nat.le_of_eq (encS_len 4 x.kind)) ht
    unfold resW
    omega
  split
  · have ht : lenS (if x.note.kind = wSchema then chgW x.note.schema else bothW (wordW (if x.note.kind = wTopology then wdsN else wdsU) x.note.what) (inet x.note.addr)) ≤ 100000000 := by
      split
      · omega
      · have := lenS_le (wordS_len (if x.note.kind = wTopology then wdsN else wdsU) x.note.what) (inetS_len x.note.addr); omega
    have := lenS_le (wordS_len wdsE x.note.kind) ht
    unfold nteW
    omega
  split
  · have := valueS_len x.token; omega
  · show 0 ≤ _; omega
end Sb
namespace Go.Proofs.Sb
open Go.RowKit _root_.Sb
set_option maxHeartbeats 4000000 in
set_option maxRecDepth 100000 in
theorem slight9_any {S : Nat → Prop} {w : World} {x : Rp} {t : Trs} (hR : RpR S w x t) (hb : RpA 1048576 x) :
    Calls Try.prog 13 #[.agg (rpT x t).toArray] w fun e w' => ∃ β : Bool, e = .returned (.bool β) ∧ (β = true → RpS x) ∧ Below w.heap.size w w' := by
  have HP := Lib.hid (goesRp.mono (S' := fun b => S b ∧ b < w.heap.size) hR fun b h1 h2 => ⟨h1, h2⟩); clear hR
  have n1 := HP.out.fa.len
  have n2 := HP.out.su.len
  have n3 := HP.out.cg.len
  have n4 := HP.out.sc.len
  have n5 := HP.out.rs.len
  have m1 := hb.nfa
  have m2 := hb.nsu
  have m3 := hb.ncg
  have m4 := hb.nsc
  obtain ⟨⟨fA, fn, fc⟩, fi, ⟨aA, an, ac⟩, tk, ad, ⟨sA, sn, sc⟩, ⟨gA, gn, gc⟩, idn, ⟨rA, rn, rc⟩⟩ := t
  dsimp only at n1 n2 n3 n4 n5
  have j1 : fn ≤ 1048576 := by omega
  have j2 : an ≤ 1048576 := by omega
  have j3 : gn ≤ 1048576 := by omega
  have j4 : sn ≤ 1048576 := by omega
  obtain ⟨bs, hbs⟩ : ∃ bs, bs = fn + an + gn + sn := ⟨_, rfl⟩
  have HC : Hid (cntP x = bs) := Lib.hid (by unfold cntP; omega)
  have HBS := Lib.hid hbs; clear hbs
  have HN3 := Lib.hid n2
  have HN5 := Lib.hid n5
  have HX : Hid (∀ y ∈ x.support, y.2.length ≤ 1048576) := Lib.hid hb.sup
  clear n1 n2 n3 n4 n5 m1 m2 m3 m4 hb
  obtain ⟨vs, hvs⟩ : ∃ vs, vs = rpT x ⟨⟨fA, fn, fc⟩, fi, ⟨aA, an, ac⟩, tk, ad, ⟨sA, sn, sc⟩, ⟨gA, gn, gc⟩, idn, ⟨rA, rn, rc⟩⟩ := ⟨_, rfl⟩
  have q11 : vs[11]? = some (.slice fA fn fc) := by rw [hvs]; rfl
  have q14 : vs[14]? = some (.slice aA an ac) := by rw [hvs]; rfl
  have q25 : vs[25]? = some (.slice sA sn sc) := by rw [hvs]; rfl
  have q31 : vs[31]? = some (.slice gA gn gc) := by rw [hvs]; rfl
  have q33 : vs[33]? = some (.slice rA rn rc) := by rw [hvs]; rfl
  rw [← hvs]
  clear hvs
  go_enter Try.func13, Try.ntmps13
  go_upto_block 1 with fail
  obtain ⟨w1, hw1⟩ : ∃ w1, w1 = w.alloc (.cells vs.toArray 39) := ⟨_, rfl⟩
  rw [← hw1]
  have hB1 : Below w.heap.size w w1 := by rw [hw1]; exact (Below.refl _ _).alloc (Nat.le_refl _) _
  have hbx : Bx (fun b => b = w.heap.size) w1 w.heap.size vs := by
    rw [hw1]; exact Bx.alloc w _ 39 (S := fun b => b = w.heap.size) rfl rfl
  have k11 := hbx.c 11 _ q11
  have k14 := hbx.c 14 _ q14
  have k25 := hbx.c 25 _ q25
  have k31 := hbx.c 31 _ q31
  have k33 := hbx.c 33 _ q33
  have HP1 := Lib.hid (goesRp.after HP.out hB1)
  have HB1 := Lib.hid hB1; clear hB1 hw1 hbx HP q11 q14 q25 q31 q33
  go_wp2_with fail
  go_loopw [3, 4] (fun n i wr => ∃ k m : Nat, k ≤ an ∧ m ≤ 7000000 ∧ n = .int .i64 (m : Nat) ∧ i = .int .i64 (k : Nat) ∧ Hid (m = bs + cntM (x.support.take k)) ∧ w1 = wr) (fun _ i _ => an - (intOf i).toNat)
  case atStart => exact ⟨0, bs, by omega, by have := HBS.out; omega, by rw [HBS.out]; go_num, rfl, Lib.hid rfl, rfl⟩
  case round =>
    obtain ⟨k, m, hk, hm, rfl, rfl, HM, rfl⟩ := hrel
    by_cases hlt : k < an
    · by_cases hsm : m < 100
      · obtain ⟨y, hy⟩ : ∃ y, x.support[k]? = some y := ⟨_, List.getElem?_eq_getElem (by have := HN3.out; omega)⟩
        obtain ⟨b, of, hbo, hSb, hbz, HQ⟩ := HP1.out.su.at (by decide) (by dsimp only; omega)
        obtain rfl : aA = some ⟨b, of, none⟩ := hbo
        obtain ⟨v, hv1, hp, hv2⟩ := HQ k y hy
        obtain ⟨A2, n2, c2, rfl, hxl, hvl⟩ := hp
        have hn3 := hvl.len
        have hx3 := HX.out y (List.mem_of_getElem? hy)
        have h3 : n2 ≤ 1048576 := by omega
        have hc3 := hv2 1 _ rfl
        have HX1 : Hid (m + n2 = bs + cntM (x.support.take (k + 1))) := Lib.hid (by rw [cntM_take hy, HM.out]; omega)
        clear hv1 hv2 HQ hvl hx3 hn3
        go_wp2_with fail
        refine ⟨⟨k + 1, m + n2, by omega, by omega, by go_num, by go_num, HX1, trivial⟩, by simp [intOf]; omega⟩
      · go_wp2_with fail
        go_ret
        first | exact .inl ⟨rfl, HB1.out⟩ | exact ⟨false, rfl, fun h => by cases h, HB1.out⟩
    · obtain rfl : k = an := by omega
      have hall : x.support.take k = x.support := List.take_of_length_le (by have := HN3.out; omega)
      rw [hall] at HM
      by_cases hm1 : m < 100
      · go_wp2_with fail
        go_ret
        refine ⟨_, rfl, fun h => ⟨by rw [HC.out]; have := HM.out; omega, ?_⟩, HB1.out⟩
        have := HN5.out
        simp at h
        omega
      · go_wp2_with fail
        go_ret
        first | exact .inl ⟨rfl, HB1.out⟩ | exact ⟨false, rfl, fun h => by cases h, HB1.out⟩
end Go.Proofs.Sb
