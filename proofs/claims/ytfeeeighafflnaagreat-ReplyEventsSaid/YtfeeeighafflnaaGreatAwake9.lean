/- The walk over signalboxlaw09.awake: true. No conditions. -/
import Derived.Test.YtfeeeighafflnaaGreatStp
import Derived.Test.YtfeeeighafflnaaGreatStk
import Derived.Test.YtfeeeighafflnaaGreatStq
import Derived.Lib.SlBytesConst
import Derived.Test.YtfeeeighafflnaaGreatArgsy
import Derived.Test.YtfeeeighafflnaaGreatStn
import Derived.Deep.DeepCutAuto
import Derived.Deep.CutBlock
set_option linter.unusedVariables false
set_option linter.unusedSimpArgs false
namespace Go.Proofs.Sb
open Go.RowKit _root_.Sb

theorem sl_const (w : World) (vs : Array Value) (n : Nat) (bs : B) (fz : Nat × Nat) (h : vs.toList = bv bs) (hn : n = bs.length) (hm : n ≤ maxLen) {g : Nat} (hg : g = w.heap.size) : Sl (fun b => w.heap.size ≤ b) (w.alloc (.cells vs 5 fz)) (some ⟨g, 0, none⟩) n n bs := by
  subst hg
  refine ⟨hn, Nat.le_refl _, hm, fun _ => ⟨w.heap.size, 0, rfl, Nat.le_refl _, by simp, fun j u hu => ?_⟩⟩
  rw [← h] at hu
  have hb : (w.alloc (.cells vs 5 fz)).heap[w.heap.size]? = some (.cells vs 5 fz) := by
    show (w.heap.push _)[w.heap.size]? = _
    simp
  unfold World.cell?
  simp only [hb]
  simpa using hu
def aw3 : Rp := { Rp.of 8 with kind := 3, text := [107] }
def aw4 : Rp := { Rp.of 12 with note := ⟨wStatus, wUp, ⟨[1, 2, 3, 4], 9⟩, Chg.none⟩ }
def aw4b : B := [0, 13, 83, 84, 65, 84, 85, 83, 95, 67, 72, 65, 78, 71, 69, 0, 2, 85, 80, 4, 1, 2, 3, 4, 0, 0, 0, 9]
set_option maxHeartbeats 4000000 in
set_option maxRecDepth 100000 in
theorem awake9 (w : World) : Calls Tryz.prog 5 #[] w fun e w' => e = .returned (.bool true) ∧ Below w.heap.size w w' := by
  have kc := fun (w : World) (C : Array Value) (n c : Nat) => Lib.run_convert_bytes_const (P := Tryz.prog) w 25 5 C n c Tryz.underlying25 Tryz.underlying5
  go_enter Tryz.func5, Tryz.ntmps5
  go_wp2_with fail
  refine (rGet9_any (op := 2) (A := none) (n := 0) (c := 0) (bs := []) (S := fun _ => False) Sl.nil (by decide) (.ok (Rp.of 2)) (by kernel_rfl)).mono ?_
  rintro e w1 ⟨t1, rfl, hq1, hb1⟩
  have HB1 := Lib.hid hb1
  clear hq1 hb1
  rw [show rpOf (.ok (Rp.of 2)) = Rp.of 2 from rfl, show erP (.ok (Rp.of 2)) = 0 from rfl]
  go_wp2_with (first | (refine wpList_store_newB (by rfl) 40 _ _ (by rfl) _ _ _ _ (by rfl) (by rfl) (by simp) (by rfl) (by kernel_rfl) (by rfl) (by rfl) ?_; intro w2 hb2 hz2 hx2; have hl2 : w1.heap.size < w2.heap.size := (by omega); clear hz2; have HB2 := Lib.hid (HB1.out.trans (hb2.mono HB1.out.size)); have HX2 := Lib.hid hx2; clear hb2 hx2))
  refine (rGet9_any (op := 8) (sl_lit _ _ 4 [0, 0, 0, 9] (by rfl) (by rfl) (by decide) (by first | rfl | simp)) (by decide) (.error 11) (by kernel_rfl)).mono ?_
  rintro e w3 ⟨t3, rfl, hq3, hb3⟩
  have hb23 : Below w2.heap.size w2 w3 := Below.trans (Below.alloc (Below.refl _ _) (Nat.le_refl _) _) (hb3.mono (by simp))
  have HB3 := Lib.hid (HB2.out.trans (hb23.mono HB2.out.size))
  have HX3 := Lib.hid (goesBx.after HX2.out hb23)
  have hl3 : w1.heap.size < w3.heap.size := by have := hb23.size; omega
  clear hq3 hb3 hb23
  rw [show rpOf (.error 11) = Rp.none from rfl, show erP (.error 11) = 11 from rfl]
  go_wp2_with (first | (refine wpList_store_newB (by rfl) 40 _ _ (by rfl) _ _ _ _ (by rfl) (by rfl) (by simp) (by rfl) (by kernel_rfl) (by rfl) (by rfl) ?_; intro w4 hb4 hz4 hx4; have hl4 : w1.heap.size < w4.heap.size := (by omega); clear hz4 hx4; have HB4 := Lib.hid (HB3.out.trans (hb4.mono HB3.out.size)); have HX4 := Lib.hid (goesBx.after HX3.out hb4); clear hb4) | (refine wpList_built (by rfl) 40 _ (by rfl) (rpT aw3 .z).toArray (by kernel_rfl) ?_))
  refine (rPut9_any (S := fun _ => False) (x := aw3) (t := .z) ⟨Arr.nil, Sl.nil, Arr.nil, Sl.nil, Sl.nil, Arr.nil, Arr.nil, Sl.nil, Sl.nil⟩ { rpB_of (op := 8) (by decide) with rkind := (by decide : (3 : Nat) < 4294967296), text := (by unfold strOk; decide : strOk [107]) } (rpQ_of (L := 0) (x := aw3) { rpB_of (op := 8) (by decide) with rkind := (by decide : (3 : Nat) < 4294967296), text := (by unfold strOk; decide : strOk [107]) } rfl).2 (.ok [0, 0, 0, 3, 0, 1, 107]) (by kernel_rfl)).mono ?_
  rintro e w5 ⟨A5, n5, c5, rfl, hs5, hb5⟩
  have HB5 := Lib.hid (HB4.out.trans (hb5.mono HB4.out.size))
  have HX5 := Lib.hid (goesBx.after HX4.out hb5)
  have hl5 : w1.heap.size < w5.heap.size := by have := hb5.size; omega
  have HS5 := Lib.hid hs5
  clear hs5 hb5
  go_wp2_with fail
  refine (rGet9_any (op := 12) (sl_const _ _ 28 aw4b _ (by rfl) (by rfl) (by decide) (by first | rfl | simp)) (by decide) (.ok aw4) (by kernel_rfl)).mono ?_
  rintro e w6 ⟨t6, rfl, hq6, hb6⟩
  have hb56 : Below w5.heap.size w5 w6 := Below.trans (Below.alloc (Below.refl _ _) (Nat.le_refl _) _) (hb6.mono (by simp))
  have HB6 := Lib.hid (HB5.out.trans (hb56.mono HB5.out.size))
  have HX6 := Lib.hid (goesBx.after HX5.out hb56)
  have HS6 := Lib.hid (HS5.out.after hb56)
  have hl6 : w1.heap.size < w6.heap.size := by have := hb56.size; omega
  clear hq6 hb6 hb56
  rw [show rpOf (.ok aw4) = aw4 from rfl, show erP (.ok aw4) = 0 from rfl]
  go_wp2_with (first | (refine wpList_store_newB (by rfl) 40 _ _ (by rfl) _ _ _ _ (by rfl) (by rfl) (by simp) (by rfl) (by kernel_rfl) (by rfl) (by rfl) ?_; intro w7 hb7 hz7 hx7; have hl7 : w1.heap.size < w7.heap.size := (by omega); have hm7 : w6.heap.size < w7.heap.size := (by omega); clear hz7; have HB7 := Lib.hid (HB6.out.trans (hb7.mono HB6.out.size)); have HX7 := Lib.hid (goesBx.after HX6.out hb7); have HS7 := Lib.hid (HS6.out.after hb7); have HY7 := Lib.hid hx7; clear hb7 hx7))
  refine (rGet9_any (op := 7) (A := none) (n := 0) (c := 0) (bs := []) (S := fun _ => False) Sl.nil (by decide) (.error 22) (by kernel_rfl)).mono ?_
  rintro e w8 ⟨t8, rfl, hq8, hb8⟩
  have HB8 := Lib.hid (HB7.out.trans (hb8.mono HB7.out.size))
  have HX8 := Lib.hid (goesBx.after HX7.out hb8)
  have HY8 := Lib.hid (goesBx.after HY7.out hb8)
  have HS8 := Lib.hid (HS7.out.after hb8)
  have hl8 : w1.heap.size < w8.heap.size := by have := hb8.size; omega
  have hm8 : w6.heap.size < w8.heap.size := by have := hb8.size; omega
  clear hq8 hb8
  rw [show rpOf (.error 22) = Rp.none from rfl, show erP (.error 22) = 22 from rfl]
  go_wp2_with (first | (refine wpList_store_newB (by rfl) 40 _ _ (by rfl) _ _ _ _ (by rfl) (by rfl) (by simp) (by rfl) (by kernel_rfl) (by rfl) (by rfl) ?_; intro w9 hb9 hz9 hx9; clear hz9 hx9; have HB9 := Lib.hid (HB8.out.trans (hb9.mono HB8.out.size)); have p1 : w9.cell? ⟨w1.heap.size, 0, none⟩ = some (.int .u8 2) := (goesBx.after HX8.out hb9).c 0 _ rfl; have p2 : w9.cell? ⟨w6.heap.size, 18, none⟩ = some (.string (str wUp)) := (goesBx.after HY8.out hb9).c 18 _ rfl; have p3 : w9.cell? ⟨w6.heap.size, 20, none⟩ = some (.int .u32 9) := (goesBx.after HY8.out hb9).c 20 _ rfl; have hcv := conv_sl (HS8.out.after hb9); have hl9 : w1.heap.size < w9.heap.size := (by have := hb9.size; omega); have hm9 : w6.heap.size < w9.heap.size := (by have := hb9.size; omega); clear hb9))
  go_ret
  exact ⟨rfl, HB9.out⟩
end Go.Proofs.Sb

/- The walk over signalboxlaw09.slight: is a reply small enough; what a small one is bound by. Conditions: lengths up to 2^20. -/
namespace Sb
open Go.Proofs.Sb
def cntM (l : List (B × List B)) : Nat := (l.map fun y => y.2.length).sum
def cntP (x : Rp) : Nat := x.fault.args.length + x.support.length + x.change.args.length + x.note.schema.args.length
theorem cntM_take {l : List (B × List B)} {k : Nat} {x : B × List B} (h : l[k]? = some x) : cntM (l.take (k + 1)) = cntM (l.take k) + x.2.length := by
  unfold cntM
  rw [List.take_add_one, h]
  simp
theorem cntM_mem {l : List (B × List B)} {x : B × List B} (h : x ∈ l) : x.2.length ≤ cntM l := by
  induction l with
  | nil => cases h
  | cons y l ih =>
    have e : cntM (y :: l) = y.2.length + cntM l := by simp [cntM]
    rcases List.mem_cons.1 h with rfl | h
    · omega
    · have := ih h; omega
theorem textsS_len (l : List B) : lenS (texts l) ≤ 2 + l.length * 65537 := by
  cases h : texts l with
  | error e => exact Nat.zero_le _
  | ok b => exact (putL_len (M := 65537) (fun x _ b hb => (text_len hb).1) h).2
theorem textsS_few {l : List B} (h : l.length < 100) : lenS (texts l) ≤ 6600000 := by
  have := textsS_len l
  have h2 : l.length * 65537 ≤ 100 * 65537 := Nat.mul_le_mul_right _ (by omega)
  omega
theorem multi_few {y : B × List B} (h : y.2.length < 100) : ∀ b, multiW y = .ok b → b.length ≤ 6700000 := by
  intro b hb
  have := lenS_le (textS_len y.1) (textsS_few h)
  have e : lenS (multiW y) = b.length := by rw [hb]; rfl
  have e2 : lenS (multiW y) = lenS (bothW (text y.1) (texts y.2)) := rfl
  omega
theorem cntsS_len (f : Flt) (r : Wr) : lenS (cntsW f r) ≤ 10 + lenS r := by
  have := lenS_le (consS_len f.level) (lenS_le (num4S_len f.received) (lenS_le (num4S_len f.needed) (Nat.le_refl (lenS r))))
  unfold cntsW
  omega
theorem fltTS_len (f : Flt) : lenS (fltTW f) ≤ 131090 + lenS (texts f.args) := by
  unfold fltTW
  split
  · have := lenS_le (consS_len f.level) (lenS_le (num4S_len f.needed) (num4S_len f.received)); omega
  split
  · have := cntsS_len f (text f.write); have := textS_len f.write; omega
  split
  · have := cntsS_len f (.ok (enc 1 f.data)); have := encS_len 1 f.data; omega
  split
  · have := cntsS_len f (bothW (num4W f.failures) (.ok (enc 1 f.data))); have := lenS_le (num4S_len f.failures) (Nat.le_of_eq (encS_len 1 f.data)); omega
  split
  · have := cntsS_len f (bothW (num4W f.failures) (text f.write)); have := lenS_le (num4S_len f.failures) (textS_len f.write); omega
  split
  · have := lenS_le (textS_len f.space) (lenS_le (textS_len f.name) (Nat.le_refl (lenS (texts f.args)))); omega
  split
  · have := lenS_le (textS_len f.space) (textS_len f.name); omega
  split
  · have := textS_len f.ident; omega
  · show 0 ≤ _; omega
/-- a small reply -/
structure RpS (x : Rp) : Prop where
  cnt : cntP x + cntM x.support < 100
  rest : x.rest.length < 1000
theorem small_B {x : Rp} (h : RpA 140737488355328 x) (s : RpS x) : RpB x := by
  have hc := s.cnt
  unfold cntP at hc
  have h1 := textsS_few (l := x.fault.args) (by omega)
  have h2 := textsS_few (l := x.note.schema.args) (by omega)
  have h3 := textsS_few (l := x.change.args) (by omega)
  have h4 := s.rest
  have h5 := h.token
  have h6 := h.addr
  exact ⟨h.op, h.flt, strOk_of h.text (by decide), h.kind, h.what, h.port, by omega, h.sch, h.rkind, h.chg, strOk_of h.ident (by decide), by omega, by omega, by omega, by omega, by omega⟩
theorem small_M {x : Rp} (s : RpS x) : (∀ y ∈ x.support, ∀ b, multiW y = .ok b → b.length ≤ 6700000) ∧ 2 + x.support.length * 6700000 ≤ 700000000 := by
  have hc := s.cnt
  unfold cntP at hc
  refine ⟨fun y hy => multi_few (by have := cntM_mem hy; omega), ?_⟩
  have h2 : x.support.length * 6700000 ≤ 100 * 6700000 := Nat.mul_le_mul_right _ (by omega)
  omega
theorem small_Q {x : Rp} (s : RpS x) : ∃ M, (∀ y ∈ x.support, ∀ b, multiW y = .ok b → b.length ≤ M) ∧ 2 + x.support.length * M ≤ 140737488000000 := ⟨6700000, (small_M s).1, Nat.le_trans (small_M s).2 (by decide)⟩
theorem small_len {x : Rp} (h : RpA 140737488355328 x) (s : RpS x) (ht0 : x.token.bytes.length ≤ 1048576) : lenS (putRp x) ≤ 2000000000 := by
  have hc := s.cnt
  unfold cntP at hc
  have h1 := textsS_few (l := x.fault.args) (by omega)
  have h2 := textsS_few (l := x.note.schema.args) (by omega)
  have h3 := textsS_few (l := x.change.args) (by omega)
  have h4 := s.rest
  have h5 := ht0
  have c1 := chgS_len x.note.schema
  have c2 := chgS_len x.change
  have hm := small_M s
  unfold putRp
  split
  · have := lenS_le (Nat.le_of_eq (encS_len 4 x.fault.code)) (lenS_le (textS_len x.fault.text) (fltTS_len x.fault))
    unfold fltW
    omega
  split
  · show 0 ≤ _; omega
  split
  · have := textS_len x.text; omega
  split
  · cases hp : putL multiW x.support with
    | error e => exact Nat.zero_le _
    | ok b => have := (putL_len hm.1 hp).2; show b.length ≤ _; omega
  split
  · have ht : lenS (resTW x) ≤ 100000000 := by
      unfold resTW
      split
      · show 0 ≤ _; omega
      split
      · have := textS_len x.text; omega
      split
      · omega
      split
      · have := lenS_le (textS_len x.ident) (Nat.le_refl (lenS (.ok x.rest))); have e : lenS (.ok x.rest) = x.rest.length := rfl; omega
      split
      · show x.rest.length ≤ _; omega
      · show 0 ≤ _; omega
    have := lenS_le (Nat.le_of_eq (encS_len 4 x.kind)) ht
    unfold resW
    omega
  split
  · have ht : lenS (if x.note.kind = wSchema then chgW x.note.schema else bothW (wordW (if x.note.kind = wTopology then wdsN else wdsU) x.note.what) (inet x.note.addr)) ≤ 100000000 := by
      split
      · omega
      · have := lenS_le (wordS_len (if x.note.kind = wTopology then wdsN else wdsU) x.note.what) (inetS_len x.note.addr); omega
    have := lenS_le (wordS_len wdsE x.note.kind) ht
    unfold nteW
    omega
  split
  · have := valueS_len x.token; omega
  · show 0 ≤ _; omega
end Sb
namespace Go.Proofs.Sb
open Go.RowKit _root_.Sb
set_option maxHeartbeats 4000000 in
set_option maxRecDepth 100000 in
theorem slight9_any {S : Nat → Prop} {w : World} {x : Rp} {t : Trs} (hR : RpR S w x t) (hb : RpA 140737488355328 x) :
    Calls Tryz.prog 6 #[.agg (rpT x t).toArray] w fun e w' => ∃ β : Bool, e = .returned (.bool β) ∧ (β = true → RpS x) ∧ Below w.heap.size w w' := by
  have HP := Lib.hid (goesRp.mono (S' := fun b => S b ∧ b < w.heap.size) hR fun b h1 h2 => ⟨h1, h2⟩); clear hR
  have n1 := HP.out.fa.len
  have n2 := HP.out.su.len
  have n3 := HP.out.cg.len
  have n4 := HP.out.sc.len
  have n5 := HP.out.rs.len
  have m1 := hb.nfa
  have m2 := hb.nsu
  have m3 := hb.ncg
  have m4 := hb.nsc
  obtain ⟨⟨fA, fn, fc⟩, fi, ⟨aA, an, ac⟩, tk, ad, ⟨sA, sn, sc⟩, ⟨gA, gn, gc⟩, idn, ⟨rA, rn, rc⟩⟩ := t
  dsimp only at n1 n2 n3 n4 n5
  have j1 : fn ≤ 140737488355328 := by omega
  have j2 : an ≤ 140737488355328 := by omega
  have j3 : gn ≤ 140737488355328 := by omega
  have j4 : sn ≤ 140737488355328 := by omega
  obtain ⟨bs, hbs⟩ : ∃ bs, bs = fn + an + gn + sn := ⟨_, rfl⟩
  have HC : Hid (cntP x = bs) := Lib.hid (by unfold cntP; omega)
  have HBS := Lib.hid hbs; clear hbs
  have HN3 := Lib.hid n2
  have HN5 := Lib.hid n5
  have HX : Hid (∀ y ∈ x.support, y.2.length ≤ 140737488355328) := Lib.hid hb.sup
  clear n1 n2 n3 n4 n5 m1 m2 m3 m4 hb
  obtain ⟨vs, hvs⟩ : ∃ vs, vs = rpT x ⟨⟨fA, fn, fc⟩, fi, ⟨aA, an, ac⟩, tk, ad, ⟨sA, sn, sc⟩, ⟨gA, gn, gc⟩, idn, ⟨rA, rn, rc⟩⟩ := ⟨_, rfl⟩
  have q11 : vs[11]? = some (.slice fA fn fc) := by rw [hvs]; rfl
  have q14 : vs[14]? = some (.slice aA an ac) := by rw [hvs]; rfl
  have q25 : vs[25]? = some (.slice sA sn sc) := by rw [hvs]; rfl
  have q31 : vs[31]? = some (.slice gA gn gc) := by rw [hvs]; rfl
  have q33 : vs[33]? = some (.slice rA rn rc) := by rw [hvs]; rfl
  rw [← hvs]
  clear hvs
  go_enter Tryz.func6, Tryz.ntmps6
  go_upto_block 1 with fail
  obtain ⟨w1, hw1⟩ : ∃ w1, w1 = w.alloc (.cells vs.toArray 40) := ⟨_, rfl⟩
  rw [← hw1]
  have hB1 : Below w.heap.size w w1 := by rw [hw1]; exact (Below.refl _ _).alloc (Nat.le_refl _) _
  have hbx : Bx (fun b => b = w.heap.size) w1 w.heap.size vs := by
    rw [hw1]; exact Bx.alloc w _ 40 (S := fun b => b = w.heap.size) rfl rfl
  have k11 := hbx.c 11 _ q11
  have k14 := hbx.c 14 _ q14
  have k25 := hbx.c 25 _ q25
  have k31 := hbx.c 31 _ q31
  have k33 := hbx.c 33 _ q33
  have HP1 := Lib.hid (goesRp.after HP.out hB1)
  have HB1 := Lib.hid hB1; clear hB1 hw1 hbx HP q11 q14 q25 q31 q33
  go_wp2_with fail
  go_loopw [3, 4] (fun n i wr => ∃ k m : Nat, k ≤ an ∧ m ≤ 900000000000000 ∧ n = .int .i64 (m : Nat) ∧ i = .int .i64 (k : Nat) ∧ Hid (m = bs + cntM (x.support.take k)) ∧ w1 = wr) (fun _ i _ => an - (intOf i).toNat)
  case atStart => exact ⟨0, bs, by omega, by have := HBS.out; omega, by rw [HBS.out]; go_num, rfl, Lib.hid rfl, rfl⟩
  case round =>
    obtain ⟨k, m, hk, hm, rfl, rfl, HM, rfl⟩ := hrel
    by_cases hlt : k < an
    · by_cases hsm : m < 100
      · obtain ⟨y, hy⟩ : ∃ y, x.support[k]? = some y := ⟨_, List.getElem?_eq_getElem (by have := HN3.out; omega)⟩
        obtain ⟨b, of, hbo, hSb, hbz, HQ⟩ := HP1.out.su.at (by decide) (by dsimp only; omega)
        obtain rfl : aA = some ⟨b, of, none⟩ := hbo
        obtain ⟨v, hv1, hp, hv2⟩ := HQ k y hy
        obtain ⟨A2, n2, c2, rfl, hxl, hvl⟩ := hp
        have hn3 := hvl.len
        have hx3 := HX.out y (List.mem_of_getElem? hy)
        have h3 : n2 ≤ 140737488355328 := by omega
        have hc3 := hv2 1 _ rfl
        have HX1 : Hid (m + n2 = bs + cntM (x.support.take (k + 1))) := Lib.hid (by rw [cntM_take hy, HM.out]; omega)
        clear hv1 hv2 HQ hvl hx3 hn3
        go_wp2_with fail
        refine ⟨⟨k + 1, m + n2, by omega, by omega, by go_num, by go_num, HX1, trivial⟩, by simp [intOf]; omega⟩
      · go_wp2_with fail
        go_ret
        first | exact .inl ⟨rfl, HB1.out⟩ | exact ⟨false, rfl, fun h => by cases h, HB1.out⟩
    · obtain rfl : k = an := by omega
      have hall : x.support.take k = x.support := List.take_of_length_le (by have := HN3.out; omega)
      rw [hall] at HM
      by_cases hm1 : m < 100
      · go_wp2_with fail
        go_ret
        refine ⟨_, rfl, fun h => ⟨by rw [HC.out]; have := HM.out; omega, ?_⟩, HB1.out⟩
        have := HN5.out
        simp at h
        omega
      · go_wp2_with fail
        go_ret
        first | exact .inl ⟨rfl, HB1.out⟩ | exact ⟨false, rfl, fun h => by cases h, HB1.out⟩
end Go.Proofs.Sb
