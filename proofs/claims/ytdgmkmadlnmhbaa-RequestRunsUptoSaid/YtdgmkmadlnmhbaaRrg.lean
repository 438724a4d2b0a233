/- A region that draws its order and writes into blocks of a set T: what lies in no such block stays as it was. No conditions. -/
import Derived.Test.YtdgmkmadlnmhbaaReg
import Derived.Test.YtdgmkmadlnmhbaaRole
import Derived.Test.YtdgmkmadlnmhbaaRrb
import Derived.Test.YtdgmkmadlnmhbaaRre
import Derived.Says
set_option linter.unusedVariables false
set_option linter.unusedSimpArgs false
namespace Go.Proofs.Sb
open Go.RowKit _root_.Sb

theorem regf_start {P : Program} {ops : Array Oper} {Q : Exit → Act → World → Prop} {id : Nat} {a : Act} {w : World} (T : Nat → Prop) (hm : P.follows .mixedOrders = true)
    (h : wpAnyH P .any ops Q (Fr T w.drew) ops.size (Array.replicate ops.size false) a w.drew) : (Code.region id ops true).wp P Q a w :=
  wp_region_held hm h
theorem regf_call {P : Program} {md : Region.Mode} {l : List Oper} {Q : Exit → Act → World → Prop} {T : Nat → Prop} {W : World} {fuel : Nat} {listed : Array Bool} {a : Act} (i : Nat) {o : Oper}
    (hr : Region.ready md l.toArray listed = [i]) (ho : nth l i = some o)
    (h : ∀ K : Act → World → Prop, Shut (∀ a w', Fr T W w' → wpAnyH P md l.toArray Q (Fr T w') fuel (listed.setIfInBounds i true) a w' → K a w') → if Region.wanted o (yielded l.toArray a.tmps) = true then Oper.wp P o a W K Q else K (a.put o.dst undef) W) :
    wpAnyH P md l.toArray Q (Fr T W) (fuel + 1) listed a W := by
  refine wpAnyH_all hr (by simp) fun j hj => ?_
  obtain rfl : j = i := by simpa using hj
  exact wpOp_step (nth_ops ho) fun K hK => h K fun a w' hw' h' => hK a w' ⟨hw', wpAnyH_imp (fun w h => hw'.trans h) _ _ _ _ h'⟩
theorem regf_two {P : Program} {md : Region.Mode} {l : List Oper} {Q : Exit → Act → World → Prop} {T : Nat → Prop} {W : World} {fuel : Nat} {listed : Array Bool} {a : Act} (i j : Nat) {o p : Oper}
    (hr : Region.ready md l.toArray listed = [i, j]) (ho : nth l i = some o) (hp : nth l j = some p)
    (h : ∀ K : Act → World → Prop, Shut (∀ a w', Fr T W w' → wpAnyH P md l.toArray Q (Fr T w') fuel (listed.setIfInBounds i true) a w' → K a w') → if Region.wanted o (yielded l.toArray a.tmps) = true then Oper.wp P o a W K Q else K (a.put o.dst undef) W)
    (k : ∀ K : Act → World → Prop, Shut (∀ a w', Fr T W w' → wpAnyH P md l.toArray Q (Fr T w') fuel (listed.setIfInBounds j true) a w' → K a w') → if Region.wanted p (yielded l.toArray a.tmps) = true then Oper.wp P p a W K Q else K (a.put p.dst undef) W) :
    wpAnyH P md l.toArray Q (Fr T W) (fuel + 1) listed a W := by
  refine wpAnyH_all hr (by simp) fun x hx => ?_
  simp only [List.mem_cons, List.not_mem_nil, or_false] at hx
  rcases hx with rfl | rfl
  · exact wpOp_step (nth_ops ho) fun K hK => h K fun a w' hw' h' => hK a w' ⟨hw', wpAnyH_imp (fun w h => hw'.trans h) _ _ _ _ h'⟩
  · exact wpOp_step (nth_ops hp) fun K hK => k K fun a w' hw' h' => hK a w' ⟨hw', wpAnyH_imp (fun w h => hw'.trans h) _ _ _ _ h'⟩
theorem regf_take {P : Program} {md : Region.Mode} {l : List Oper} {Q : Exit → Act → World → Prop} {T : Nat → Prop} {W : World} {fuel : Nat} {listed : Array Bool} {a : Act} (i : Nat) {oi : Oper} {v : Value} (hi : nth l i = some oi)
    (hs : Region.noSelect l.toArray = true) (hf : Region.free md l.toArray listed i = true) (hr : (Region.ready md l.toArray listed).contains i = true)
    (hQ : ∀ c a w, Q (.panic c) (a.put oi.dst v) w → Q (.panic c) a w) (hw : Region.wanted oi (yielded l.toArray a.tmps) = true) (hy : ∀ w, Fr T W w → (execOp a.eval oi).run P w = .ok (.value v) w)
    (h : wpAnyH P md l.toArray Q (Fr T W) fuel (listed.setIfInBounds i true) (a.put oi.dst v) W) : wpAnyH P md l.toArray Q (Fr T W) (fuel + 1) listed a W :=
  wpAnyH_take (nth_ops hi) hs hf hr hQ (.inl ⟨hw, hy⟩) (Fr.refl T W) h
theorem regf_skip {P : Program} {md : Region.Mode} {l : List Oper} {Q : Exit → Act → World → Prop} {T : Nat → Prop} {W : World} {fuel : Nat} {listed : Array Bool} {a : Act} (i : Nat) {oi : Oper} (hi : nth l i = some oi)
    (hs : Region.noSelect l.toArray = true) (hf : Region.free md l.toArray listed i = true) (hr : (Region.ready md l.toArray listed).contains i = true)
    (hQ : ∀ c a w, Q (.panic c) (a.put oi.dst undef) w → Q (.panic c) a w) (hw : Region.wanted oi (yielded l.toArray a.tmps) = false)
    (h : wpAnyH P md l.toArray Q (Fr T W) fuel (listed.setIfInBounds i true) (a.put oi.dst undef) W) : wpAnyH P md l.toArray Q (Fr T W) (fuel + 1) listed a W :=
  wpAnyH_take (nth_ops hi) hs hf hr hQ (.inr ⟨hw, rfl⟩) (Fr.refl T W) h
/-- what a cell holds, at each world behind -/
theorem Fr.each {T : Nat → Prop} {W : World} {b o : Nat} {v : Value} (hb : ¬ T b) (h : W.cell? ⟨b, o, none⟩ = some v) : ∀ w, Fr T W w → w.cell? ⟨b, o, none⟩ = some v :=
  fun w hw => hw.cell hb h
end Go.Proofs.Sb

/- Walks over the law's own values (signalboxlaw08.valueOf, valuesOf): values as the reference has them. Conditions: up to a million values. -/
namespace Go.Proofs.Sb
open Go.RowKit _root_.Sb
theorem tmsq {α β : Type} (f : α → β) {l : List α} {j : Nat} {y : α} (h : l[j]? = some y) : (l.take (j + 1)).map f = (l.take j).map f ++ [f y] := by
  obtain ⟨hj, rfl⟩ := List.getElem?_eq_some_iff.1 h
  rw [List.take_succ_eq_append_getElem hj, List.map_append]
  rfl
theorem results_box1 {P : Program} {w : World} {S : Nat → Prop} {fn : Func} {p : Tmp} {ty : TypeId} (h : fn.results = #[.cell p ty]) {X : Nat} {vs : List Value} (hB : Bx S w X vs) {tmps : Array Value} (hp : tmps.getD p undef = .pointer (some ⟨X, 0, none⟩)) (d : TypeDesc)
    (hu : P.underlying ty = some d) (hd : d.isRow = true) (hi : (P.info? ty).map (·.size) = some vs.length) : (results fn tmps).run P w = .ok (.agg vs.toArray) w := by
  have h1 := run_loadVar_mid (P := P) w X 0 ty vs d hB.range hu hd hi
  have hp' : tmps[p]?.getD undef = .pointer (some ⟨X, 0, none⟩) := by simpa using hp
  simp [results, h, hp', asAddr, h1]
set_option maxHeartbeats 1000000 in
set_option maxRecDepth 100000 in
theorem valueOf8_any {S : Nat → Prop} {w : World} {A : Option Addr} {n c : Nat} {v : Val} (hs : Sl S w A n c v.bytes) :
    Calls Try.prog 33 #[.agg #[.int .i64 v.kind, .slice A n c]] w fun e w' => e = .returned (.agg #[.int .i64 v.kind, .string (str v.bytes)]) ∧ Below w.heap.size w w' := by
  have HS := Lib.hid hs.lt; clear hs
  go_enter Try.func33, Try.ntmps33
  go_upto_region 1 with fail
  have hcv := conv_sl (HS.out.after (show Below w.heap.size w ((w.alloc (.cells #[.int .i64 v.kind, .slice A n c] 28)).alloc (.cells #[.int .i64 0, .string ⟨#[]⟩] 43)) from (by repeat (first | exact Below.refl _ _ | assumption | refine Below.drew ?_ | refine below_drewN ?_ _ | refine Below.alloc ?_ (by simp) _ | refine Below.setCell ?_ (by simp) _))))
  go_wp2_with (first | (refine wpList_store_newB (by rfl) 43 _ _ (by rfl) _ _ _ #[.int .i64 v.kind, .string (str v.bytes)] (by rfl) (by rfl) (by simp) (by rfl) (by kernel_rfl) (by rfl) (by rfl) ?_; intro w3 hb3 hz3 hx3; rw [World.size_alloc] at hx3; have HX3 := Lib.hid hx3; have HB3 := Lib.hid (((Below.refl w.heap.size w).alloc (Nat.le_refl _) (.cells #[.int .i64 v.kind, .slice A n c] 28)).trans (hb3.mono (by simp))); clear hb3 hz3 hx3))
  refine bodyPost_ret (results_box1 (vs := [.int .i64 v.kind, .string (str v.bytes)]) rfl HX3.out (by rfl) _ Try.underlying43 rfl (by kernel_rfl)) rfl ?_
  exact ⟨rfl, HB3.out⟩
theorem tyV : Ty 41 43 2 24 (.agg #[.int .i64 0, .string ⟨#[]⟩]) := ⟨Try.underlying41, by kernel_rfl, rfl, by decide⟩
set_option maxHeartbeats 2000000 in
set_option maxRecDepth 100000 in
theorem valuesOf8_any {S S2 : Nat → Prop} {A : Option Addr} {n c : Nat} {l : List Val} {w : World} (hs : Arr 2 (valP S2 w) S w A n c l) (hn : n ≤ 1048576) :
    Calls Try.prog 34 #[.slice A n c] w fun e w' => ∃ A1 n1 c1, e = .returned (.slice A1 n1 c1) ∧ Arr 2 valRf (fun b => w.heap.size ≤ b) w' A1 n1 c1 l ∧ Below w.heap.size w w' := by
  have hlen := Lib.hid hs.len
  have hcap := hs.cap
  have hcm := hs.capMax
  have HS := Lib.hid hs; clear hs
  have HSl := Lib.hid HS.out.lt
  go_enter Try.func34, Try.ntmps34
  go_wp2_with fail
  go_loopw [3, 4] (fun o i wr => ∃ k A2 m2 c2, k ≤ n ∧ i = .int .i64 (k : Nat) ∧ o = .slice A2 m2 c2 ∧ Hid (OwnA 43 2 valRf w.heap.size wr A2 m2 c2 (l.take k)) ∧ Hid (Below w.heap.size w wr)) (fun _ i _ => n - (intOf i).toNat)
  case atStart => exact ⟨0, none, 0, 0, by omega, rfl, rfl, Lib.hid OwnA.nil, Lib.hid (Below.refl _ _)⟩
  case round =>
    obtain ⟨k, A2, m2, c2, hk, rfl, rfl, HO, HB⟩ := hrel
    have hsz := HB.out.size
    have hml := HO.out.len (by decide)
    rw [List.length_take] at hml
    have hmk : m2 ≤ k := by omega
    clear hml
    by_cases hlt : k < n
    · obtain ⟨x, hx⟩ : ∃ x, l[k]? = some x := ⟨_, List.getElem?_eq_getElem (by have := hlen.out; omega)⟩
      obtain ⟨b, o, rfl, hSb, hbs, HC⟩ := HSl.out.at (by decide) (by omega)
      obtain ⟨v, _, hp, hv2⟩ := HC k x hx
      obtain ⟨A9, n9, c9, rfl, hsl⟩ := hp
      have hc0 := kcell HB.out (hv2 0 _ rfl)
      have hc1 := kcell HB.out (hv2 1 _ rfl)
      simp only [Nat.add_zero] at hc0
      have HL9 := Lib.hid (hsl.lt.after HB.out)
      have hxl : x.bytes.length ≤ 9223372036854775807 := by have := hsl.len; have := hsl.cap; have := hsl.capMax; omega
      have HT : Hid (l.take (k + 1) = l.take k ++ [x]) := Lib.hid (by rw [List.take_add_one, hx]; rfl)
      clear hv2 HC hsl hSb hbs hx
      go_wp2_with (first | (go_at_call 33; refine (valueOf8_any (v := x) HL9.out).mono ?_; rintro e w3 ⟨rfl, hb3⟩; have HB3 := Lib.hid (HB.out.trans (hb3.mono hsz)); have HO3 := Lib.hid (HO.out.after hb3); have hz3 := HB3.out.size; clear hb3) | (at_builtin; refine wpList_appA rfl tyV _ _ rfl w.heap.size _ _ _ (l.take k) rfl (HO3.out.after ((Below.refl _ _).alloc (Nat.le_refl _) _)) _ _ _ _ [x] rfl (arr_lit (P := valRf) _ #[.int .i64 x.kind, .string (str x.bytes)] x rfl ⟨rfl, hxl⟩ (by first | rfl | simp)) (fun _ _ h => valRf_one _ _ h) (fun _ _ _ h => h) (by omega) (by unfold maxLen; omega) (by simp; omega) ?_; intro A5 n5 c5 w5 hown5 hg5 hw5; have HO5 := Lib.hid hown5; have HB5 := Lib.hid (HB3.out.trans (below_grow (((Below.refl w3.heap.size w3).mono hz3).alloc hz3 _) hg5 (by simp; omega) fun b e => (HO3.out.block b e).1)); clear hown5 hg5 hw5))
      refine ⟨⟨k + 1, A5, _, c5, by omega, by go_num, rfl, Lib.hid (HT.out.symm ▸ HO5.out), HB5⟩, by simp [intOf]; omega⟩
    · obtain rfl : n = k := by omega
      have HT : Hid (l.take n = l) := Lib.hid (List.take_of_length_le (by have := hlen.out; omega))
      go_wp2_with fail
      go_ret
      have hown := HO.out
      rw [HT.out] at hown
      exact ⟨_, _, _, rfl, (hown.arr (by decide)).mono (fun b hb _ => hb.1), HB.out⟩
end Go.Proofs.Sb

/- Walk over signalboxlaw08.requestOf: a request as the reference has it. Conditions: up to a million of each. -/
namespace Sb
/-- how many of each there may be -/
structure RqL (q : Rq) : Prop where
  opts : q.options.length ≤ 1048576
  evs : q.events.length ≤ 1048576
  all : q.all.length ≤ 1048576
  vals : q.run.values.length ≤ 1048576
  names : q.run.names.length ≤ 1048576
  each : ∀ x ∈ q.all, x.values.length ≤ 1048576
end Sb
namespace Go.Proofs.Sb
open Go.RowKit _root_.Sb
theorem Fr.of_one {T : Nat → Prop} {w w' : World} {X : Nat} (h : w.grownBy w' (some X)) (hX : T X) : Fr T w w' := Fr.of_grown h fun b e => by injection e with e; subst e; exact hX
theorem Below.grown1 {N : Nat} {a b c : World} {X : Nat} (h : Below N a b) (hg : b.grownBy c (some X)) (hN : N ≤ b.heap.size) (hX : N ≤ X) : Below N a c := Below.grown h hg hN fun k e => by injection e with e; subst e; exact hX
theorem tyS8 : Ty 46 81 4 64 (.agg #[.bool false, .string ⟨#[]⟩, .string ⟨#[]⟩, .slice none 0 0]) := ⟨Try.underlying46, by kernel_rfl, rfl, by decide⟩
def zeroR : List Value := [.int .u8 0, .slice none 0 0, .string ⟨#[]⟩, .string ⟨#[]⟩, .int .u16 0, .slice none 0 0, .slice none 0 0, .bool false, .bool false, .int .i32 0, .bool false, .int .i64 0, .string ⟨#[]⟩, .bool false, .int .u16 0, .bool false, .int .i64 0, .slice none 0 0, .int .i64 0, .string ⟨#[]⟩, .int .u8 0, .slice none 0 0]
set_option maxHeartbeats 8000000 in
set_option maxRecDepth 100000 in
theorem requestOf_any {S : Nat → Prop} {w : World} {q : Rq} {o i r1 r2 r3 ev t al : Slc} (hq : RqR S w q o i r1 r2 r3 ev t al) (hl : RqL q) :
    Calls Try.prog 13 #[.agg (rqV q o i r1 r2 r3 ev t al).toArray] w fun e w' => ∃ o' r1' r2' ev' al', e = .returned (.agg (rfV q o' r1' r2' ev' al').toArray) ∧ RfR (fun b => w.heap.size ≤ b) w' q o' r1' r2' ev' al' ∧ Below w.heap.size w w' := by
  obtain ⟨op, opts, tx, idn, run, evs, tok, kd, all⟩ := q
  have HP := Lib.hid (goesRq.mono (S' := fun b => b < w.heap.size) hq fun b _ h => h); clear hq
  have HLL := Lib.hid hl; clear hl
  have hn1 := HP.out.run.names.len
  have hn2 := HP.out.run.names.cap
  have hn3 := HP.out.run.names.capMax
  have hm2 := HLL.out.names
  dsimp only at hn1 hn2 hn3 hm2
  have hnn : r2.n ≤ 1048576 := by omega
  have HN1 := Lib.hid hn1; clear hn1 hm2
  obtain ⟨vs, hvs⟩ : ∃ vs, vs = rqV ⟨op, opts, tx, idn, run, evs, tok, kd, all⟩ o i r1 r2 r3 ev t al := ⟨_, rfl⟩
  rw [← hvs]
  have hvl : vs.length = 22 := by rw [hvs]; rfl
  have HVS := Lib.hid hvs; clear hvs
  go_enter Try.func13, Try.ntmps13
  go_upto_region 1 with fail
  obtain ⟨w2, hw2⟩ : ∃ w2, w2 = (w.alloc (.cells vs.toArray 33)).alloc (.cells zeroR.toArray 48) := ⟨_, rfl⟩
  have hw2' := hw2
  rw [show (zeroR.toArray) = #[.int .u8 0, .slice none 0 0, .string ⟨#[]⟩, .string ⟨#[]⟩, .int .u16 0, .slice none 0 0, .slice none 0 0, .bool false, .bool false, .int .i32 0, .bool false, .int .i64 0, .string ⟨#[]⟩, .bool false, .int .u16 0, .bool false, .int .i64 0, .slice none 0 0, .int .i64 0, .string ⟨#[]⟩, .int .u8 0, .slice none 0 0] from rfl] at hw2'
  rw [← hw2']
  clear hw2'
  have hB2 : Below w.heap.size w w2 := by rw [hw2]; exact ((Below.refl _ _).alloc (Nat.le_refl _) _).alloc (by simp) _
  have hz2 : w2.heap.size = w.heap.size + 2 := by rw [hw2]; simp
  have HBR : Hid (Bx (fun b => b = w.heap.size) w2 w.heap.size vs) := Lib.hid (by
    rw [hw2]
    exact goesBx.after (Bx.alloc w vs.toArray 33 (S := fun b => b = w.heap.size) rfl rfl) ((Below.refl _ _).alloc (Nat.le_refl _) _))
  have HBZ : Hid (Bx (fun b => b = w.heap.size + 1) w2 (w.heap.size + 1) zeroR) := Lib.hid (by
    rw [hw2]
    exact Bx.alloc (w.alloc _) zeroR.toArray 48 (S := fun b => b = w.heap.size + 1) (by simp) (by simp))
  have HB2 := Lib.hid hB2; clear hB2 hw2
  have hlt2 : w.heap.size + 1 < w2.heap.size := by omega
  clear hz2
  go_upto_region 3 with (first | (refine wpList_load_mid (by rfl) 30 _ (by rfl) w.heap.size 4 (by rfl) (parV run r1.a r1.n r1.c r2.a r2.n r2.c r3.a r3.n r3.c) _ (HBR.out.range_at (by rw [HVS.out]; rfl)) Try.underlying30 rfl (by kernel_rfl) ?_) | (refine wpList_store_newB (by rfl) 30 _ _ (by rfl) _ _ _ (parV run r1.a r1.n r1.c r2.a r2.n r2.c r3.a r3.n r3.c).toArray (by rfl) (by rfl) (by simp) (by rfl) (by kernel_rfl) (by rfl) (by rfl) ?_; intro w3 hb3 hz3 hx3; go_loud (have HX3 : Hid (Bx (fun b => b = w2.heap.size) w3 w2.heap.size (parV run r1.a r1.n r1.c r2.a r2.n r2.c r3.a r3.n r3.c)) := Lib.hid hx3; have HB3 := Lib.hid hb3; clear hb3 hz3 hx3)))
  obtain ⟨P, hP⟩ : ∃ P, P = w2.heap.size := ⟨_, rfl⟩
  rw [← hP] at HX3 ⊢
  have hP2 : w2.heap.size ≤ P := by omega
  clear hP
  have p2 := HX3.out.c 2 _ rfl
  have hP3 := HX3.out.lt
  have hz3 := HB3.out.size
  have HP3 := Lib.hid (goesRq.after HP.out (HB2.out.trans (HB3.out.mono HB2.out.size)))
  go_upto_region 4 with (first | (at_builtin; go_loud (refine wpList_appA rfl tyStr _ _ rfl w3.heap.size _ _ _ [] rfl OwnA.nil _ _ _ _ run.names rfl HP3.out.run.names strP_one (fun _ _ _ h => h) (by omega) (by unfold maxLen; omega) (Nat.le_refl _) ?_); intro A4 n4 c4 w4 hown4 hg4 hw4; go_loud (have HO4 := Lib.hid hown4; have HB4 := Lib.hid (below_grow (Below.refl w3.heap.size w3) hg4 (Nat.le_refl _) fun b e => by cases e); clear hown4 hg4 hw4)))
  have hz4 := HB4.out.size
  have HB24 := Lib.hid (HB3.out.trans (HB4.out.mono hz3))
  have HBR4 := Lib.hid (goesBx.after HBR.out HB24.out)
  have HP4 := Lib.hid (goesRq.after HP.out (HB2.out.trans (HB24.out.mono HB2.out.size)))
  have t0 := HBR4.out.c 0 _ (show vs[0]? = some (.int .u8 (op : Int)) by rw [HVS.out]; rfl)
  have t2 := HBR4.out.c 2 _ (show vs[2]? = some (.string (str tx)) by rw [HVS.out]; rfl)
  have t3 := HBR4.out.c 3 _ (show vs[3]? = some (.slice i.a i.n i.c) by rw [HVS.out]; rfl)
  have t18 := HBR4.out.c 18 _ (show vs[18]? = some (.int .i64 tok.kind) by rw [HVS.out]; rfl)
  have t19 := HBR4.out.c 19 _ (show vs[19]? = some (.slice t.a t.n t.c) by rw [HVS.out]; rfl)
  have t20 := HBR4.out.c 20 _ (show vs[20]? = some (.int .u8 (kd : Int)) by rw [HVS.out]; rfl)
  have hR4 : ¬ w4.heap.size ≤ w.heap.size := by omega
  have hdr : Below w4.heap.size w4 w4.drew := (Below.refl _ _).drew
  have a0 := Fr.each (T := fun b => w4.heap.size ≤ b) hR4 (kcell hdr t0)
  have a2 := Fr.each (T := fun b => w4.heap.size ≤ b) hR4 (kcell hdr t2)
  have a3 := Fr.each (T := fun b => w4.heap.size ≤ b) hR4 (kcell hdr t3)
  have a18 := Fr.each (T := fun b => w4.heap.size ≤ b) hR4 (kcell hdr t18)
  have a19 := Fr.each (T := fun b => w4.heap.size ≤ b) hR4 (kcell hdr t19)
  have a20 := Fr.each (T := fun b => w4.heap.size ≤ b) hR4 (kcell hdr t20)
  have hcI : ∀ w', Fr (fun b => w4.heap.size ≤ b) w4.drew w' → (convert 23 9 (.slice i.a i.n i.c)).run Try.prog w' = .ok (.string (str idn)) w' := fun w' h => conv_sl (goesSl.keep (goesSl.after HP4.out.ident hdr) h.size fun b hb hlt => h.block b hlt (by omega))
  clear t0 t2 t3 t18 t19 t20 hdr
  go_cut [5] (fun v wx => ∃ Q, v = .pointer (some ⟨Q, 0, none⟩) ∧ w4.heap.size ≤ Q ∧ Hid (Bx (fun b => b = Q) wx Q (rfV ⟨op, [], tx, idn, Par.none, [], tok, kd, []⟩ .z .z .z .z .z)) ∧ Hid (Below w4.heap.size w4 wx))
  case first =>
    refine regf_start (fun b => w4.heap.size ≤ b) (by kernel_rfl) ?_
    (refine regf_take 0 (v := ?_) (by rfl) (by kernel_rfl) (by kernel_rfl) (by kernel_rfl) (by exact fun _ _ _ h => h) (by rfl) ?_ ?_; rotate_left; focus (intro w hSw; go_simp; try with_reducible rfl))
    simp only [Act.put, List.setIfInBounds_toArray, List.set_cons_zero, List.set_cons_succ]
    (refine regf_take 1 (v := ?_) (by rfl) (by kernel_rfl) (by kernel_rfl) (by kernel_rfl) (by exact fun _ _ _ h => h) (by rfl) ?_ ?_; rotate_left; focus (intro w hSw; go_simp; try with_reducible rfl))
    simp only [Act.put, List.setIfInBounds_toArray, List.set_cons_zero, List.set_cons_succ]
    (refine regf_take 2 (v := ?_) (by rfl) (by kernel_rfl) (by kernel_rfl) (by kernel_rfl) (by exact fun _ _ _ h => h) (by rfl) ?_ ?_; rotate_left; focus (intro w hSw; go_simp; try with_reducible rfl))
    simp only [Act.put, List.setIfInBounds_toArray, List.set_cons_zero, List.set_cons_succ]
    (refine regf_take 3 (v := ?_) (by rfl) (by kernel_rfl) (by kernel_rfl) (by kernel_rfl) (by exact fun _ _ _ h => h) (by rfl) ?_ ?_; rotate_left; focus (intro w hSw; go_simp; try with_reducible rfl))
    simp only [Act.put, List.setIfInBounds_toArray, List.set_cons_zero, List.set_cons_succ]
    (refine regf_take 4 (v := ?_) (by rfl) (by kernel_rfl) (by kernel_rfl) (by kernel_rfl) (by exact fun _ _ _ h => h) (by rfl) ?_ ?_; rotate_left; focus (intro w hSw; go_simp; try with_reducible rfl))
    simp only [Act.put, List.setIfInBounds_toArray, List.set_cons_zero, List.set_cons_succ]
    (refine regf_take 5 (v := ?_) (by rfl) (by kernel_rfl) (by kernel_rfl) (by kernel_rfl) (by exact fun _ _ _ h => h) (by rfl) ?_ ?_; rotate_left; focus (intro w hSw; go_simp; try with_reducible rfl))
    simp only [Act.put, List.setIfInBounds_toArray, List.set_cons_zero, List.set_cons_succ]
    (refine regf_take 6 (v := ?_) (by rfl) (by kernel_rfl) (by kernel_rfl) (by kernel_rfl) (by exact fun _ _ _ h => h) (by rfl) ?_ ?_; rotate_left; focus (intro w hSw; go_simp; try with_reducible rfl))
    simp only [Act.put, List.setIfInBounds_toArray, List.set_cons_zero, List.set_cons_succ]
    (refine regf_take 7 (v := ?_) (by rfl) (by kernel_rfl) (by kernel_rfl) (by kernel_rfl) (by exact fun _ _ _ h => h) (by rfl) ?_ ?_; rotate_left; focus (intro w hSw; go_simp; try with_reducible rfl))
    simp only [Act.put, List.setIfInBounds_toArray, List.set_cons_zero, List.set_cons_succ]
    (refine regf_take 8 (v := ?_) (by rfl) (by kernel_rfl) (by kernel_rfl) (by kernel_rfl) (by exact fun _ _ _ h => h) (by rfl) ?_ ?_; rotate_left; focus (intro w hSw; go_simp; try with_reducible rfl))
    simp only [Act.put, List.setIfInBounds_toArray, List.set_cons_zero, List.set_cons_succ]
    (refine regf_take 10 (v := ?_) (by rfl) (by kernel_rfl) (by kernel_rfl) (by kernel_rfl) (by exact fun _ _ _ h => h) (by rfl) ?_ ?_; rotate_left; focus (intro w hSw; go_simp; try with_reducible rfl))
    simp only [Act.put, List.setIfInBounds_toArray, List.set_cons_zero, List.set_cons_succ]
    (refine regf_take 11 (v := ?_) (by rfl) (by kernel_rfl) (by kernel_rfl) (by kernel_rfl) (by exact fun _ _ _ h => h) (by rfl) ?_ ?_; rotate_left; focus (intro w hSw; go_simp; try with_reducible rfl))
    simp only [Act.put, List.setIfInBounds_toArray, List.set_cons_zero, List.set_cons_succ]
    refine regf_two 9 13 (by kernel_rfl) (by rfl) (by rfl) (fun K hK => ?_) (fun K hK => ?_)
    focus
      go_simp
      go_at_call 33; refine (valueOf8_any (v := tok) (HP4.out.token.after (by repeat (first | exact Below.refl _ _ | assumption | refine Below.drew ?_ | refine below_drewN ?_ _ | refine Below.alloc ?_ (by first | (simp; done) | omega | (simp; omega)) _ | refine Below.setCell ?_ (by first | (simp; done) | omega | (simp; omega)) _)))).mono ?_; rintro e w5 ⟨rfl, hb5⟩
      refine hK.out _ _ ((Fr.of_below hb5)) ?_
      clear hK K
      try simp only [Act.put, List.setIfInBounds_toArray, List.set_cons_zero, List.set_cons_succ]
      (refine regf_take 12 (v := ?_) (by rfl) (by kernel_rfl) (by kernel_rfl) (by kernel_rfl) (by exact fun _ _ _ h => h) (by rfl) ?_ ?_; rotate_left; focus (intro w hSw; go_simp; try with_reducible rfl))
      simp only [Act.put, List.setIfInBounds_toArray, List.set_cons_zero, List.set_cons_succ]
      refine regf_call 13 (by kernel_rfl) (by rfl) (fun K hK => ?_)
      go_simp
      refine hK.out _ _ ((by exact Fr.of_below (by repeat (first | exact Below.refl _ _ | exact below_undrew (Below.refl _ _) | assumption | refine Below.drew ?_ | refine below_drewN ?_ _ | refine Below.alloc ?_ (by simp) _ | refine Below.setCell ?_ (by simp) _)))) ?_
      clear hK K
      try simp only [Act.put, List.setIfInBounds_toArray, List.set_cons_zero, List.set_cons_succ]
      refine regf_call 14 (by kernel_rfl) (by rfl) (fun K hK => ?_)
      first | (refine step_storeB (Bx.alloc w5 zeroR.toArray 48 (S := fun b => b = w5.heap.size) rfl rfl) (by rfl) 48 _ _ (by rfl) 0 (rfV ⟨op, [], tx, idn, Par.none, [], tok, kd, []⟩ .z .z .z .z .z) (by rfl) (by rfl) (by kernel_rfl) (by show 0 + 22 ≤ 22; decide) (by rfl) ?_; intro w7 hx7 hg7; have hB7 : Below w4.heap.size w4 w7 := Below.grown1 (((Below.refl w4.heap.size w4).drew.trans hb5).alloc hb5.size _) hg7 (by have := hb5.size; simp at this ⊢; omega) hb5.size; have hQ7 : w4.heap.size ≤ w5.heap.size := hb5.size) | (refine step_storeB (goesBx.after (Bx.alloc w4.drew zeroR.toArray 48 (S := fun b => b = w4.drew.heap.size) rfl rfl) hb5) (by rfl) 48 _ _ (by rfl) 0 (rfV ⟨op, [], tx, idn, Par.none, [], tok, kd, []⟩ .z .z .z .z .z) (by rfl) (by rfl) (by kernel_rfl) (by show 0 + 22 ≤ 22; decide) (by rfl) ?_; intro w7 hx7 hg7; have hB7 : Below w4.heap.size w4 w7 := Below.grown1 ((((Below.refl w4.heap.size w4).drew).alloc (Nat.le_refl _) _).trans (hb5.mono (by simp))) hg7 (by have := hb5.size; simp at this; omega) (Nat.le_refl _); have hQ7 : w4.heap.size ≤ w4.drew.heap.size := Nat.le_refl _)
      refine hK.out _ _ ((Fr.of_one hg7 (by first | exact Nat.le_refl _ | exact hb5.size))) ?_
      clear hK K
      try simp only [Act.put, List.setIfInBounds_toArray, List.set_cons_zero, List.set_cons_succ]
      refine wpAnyH_done (by kernel_rfl) ?_ _
    rotate_left 1
    focus
      go_simp
      refine hK.out _ _ ((by exact Fr.of_below (by repeat (first | exact Below.refl _ _ | exact below_undrew (Below.refl _ _) | assumption | refine Below.drew ?_ | refine below_drewN ?_ _ | refine Below.alloc ?_ (by simp) _ | refine Below.setCell ?_ (by simp) _)))) ?_
      clear hK K
      try simp only [Act.put, List.setIfInBounds_toArray, List.set_cons_zero, List.set_cons_succ]
      refine regf_call 9 (by kernel_rfl) (by rfl) (fun K hK => ?_)
      go_simp
      go_at_call 33; refine (valueOf8_any (v := tok) (HP4.out.token.after (by repeat (first | exact Below.refl _ _ | assumption | refine Below.drew ?_ | refine below_drewN ?_ _ | refine Below.alloc ?_ (by first | (simp; done) | omega | (simp; omega)) _ | refine Below.setCell ?_ (by first | (simp; done) | omega | (simp; omega)) _)))).mono ?_; rintro e w5 ⟨rfl, hb5⟩
      refine hK.out _ _ ((Fr.of_below hb5)) ?_
      clear hK K
      try simp only [Act.put, List.setIfInBounds_toArray, List.set_cons_zero, List.set_cons_succ]
      (refine regf_take 12 (v := ?_) (by rfl) (by kernel_rfl) (by kernel_rfl) (by kernel_rfl) (by exact fun _ _ _ h => h) (by rfl) ?_ ?_; rotate_left; focus (intro w hSw; go_simp; try with_reducible rfl))
      simp only [Act.put, List.setIfInBounds_toArray, List.set_cons_zero, List.set_cons_succ]
      refine regf_call 14 (by kernel_rfl) (by rfl) (fun K hK => ?_)
      first | (refine step_storeB (Bx.alloc w5 zeroR.toArray 48 (S := fun b => b = w5.heap.size) rfl rfl) (by rfl) 48 _ _ (by rfl) 0 (rfV ⟨op, [], tx, idn, Par.none, [], tok, kd, []⟩ .z .z .z .z .z) (by rfl) (by rfl) (by kernel_rfl) (by show 0 + 22 ≤ 22; decide) (by rfl) ?_; intro w7 hx7 hg7; have hB7 : Below w4.heap.size w4 w7 := Below.grown1 (((Below.refl w4.heap.size w4).drew.trans hb5).alloc hb5.size _) hg7 (by have := hb5.size; simp at this ⊢; omega) hb5.size; have hQ7 : w4.heap.size ≤ w5.heap.size := hb5.size) | (refine step_storeB (goesBx.after (Bx.alloc w4.drew zeroR.toArray 48 (S := fun b => b = w4.drew.heap.size) rfl rfl) hb5) (by rfl) 48 _ _ (by rfl) 0 (rfV ⟨op, [], tx, idn, Par.none, [], tok, kd, []⟩ .z .z .z .z .z) (by rfl) (by rfl) (by kernel_rfl) (by show 0 + 22 ≤ 22; decide) (by rfl) ?_; intro w7 hx7 hg7; have hB7 : Below w4.heap.size w4 w7 := Below.grown1 ((((Below.refl w4.heap.size w4).drew).alloc (Nat.le_refl _) _).trans (hb5.mono (by simp))) hg7 (by have := hb5.size; simp at this; omega) (Nat.le_refl _); have hQ7 : w4.heap.size ≤ w4.drew.heap.size := Nat.le_refl _)
      refine hK.out _ _ ((Fr.of_one hg7 (by first | exact Nat.le_refl _ | exact hb5.size))) ?_
      clear hK K
      try simp only [Act.put, List.setIfInBounds_toArray, List.set_cons_zero, List.set_cons_succ]
      refine wpAnyH_done (by kernel_rfl) ?_ _
    all_goals
      have HX7 := Lib.hid hx7
      have HB7 := Lib.hid hB7
      clear hx7 hg7 hB7 hb5
      go_wp2_with fail
      go_meet
      exact ⟨_, rfl, hQ7, HX7, HB7⟩
  obtain ⟨Q, rfl, hQ4, HX5, HB5⟩ := hcut
  obtain ⟨w5, hwo⟩ : ∃ wo, wo = wc := ⟨_, rfl⟩
  subst hwo
  clear a0 a2 a3 a18 a19 a20 hcI
  have hz5 := HB5.out.size
  have HB35 := Lib.hid (HB4.out.trans (HB5.out.mono hz4))
  have HB25 := Lib.hid (HB24.out.trans (HB5.out.mono HB24.out.size))
  have HXP := Lib.hid (goesBx.after HX3.out HB35.out)
  have HP5 := Lib.hid (goesRq.after HP.out (HB2.out.trans (HB25.out.mono HB2.out.size)))
  have hnv : r1.n ≤ 1048576 := by have := HP5.out.run.values.len; have := HLL.out.vals; dsimp only at *; omega
  have hPQ : ¬ (w5.heap.size ≤ P ∨ P = Q) := by have := HXP.out.lt; omega
  have hdr : Below w5.heap.size w5 w5.drew := (Below.refl _ _).drew
  go_upto_region 5 with fail
  have b0 := Fr.each (T := fun b => w5.heap.size ≤ b ∨ b = Q) hPQ (kcell hdr (HXP.out.c 0 _ rfl))
  have b1 := Fr.each (T := fun b => w5.heap.size ≤ b ∨ b = Q) hPQ (kcell hdr (HXP.out.c 1 _ rfl))
  have b3 := Fr.each (T := fun b => w5.heap.size ≤ b ∨ b = Q) hPQ (kcell hdr (HXP.out.c 3 _ rfl))
  have b4 := Fr.each (T := fun b => w5.heap.size ≤ b ∨ b = Q) hPQ (kcell hdr (HXP.out.c 4 _ rfl))
  have b5 := Fr.each (T := fun b => w5.heap.size ≤ b ∨ b = Q) hPQ (kcell hdr (HXP.out.c 5 _ rfl))
  have b6 := Fr.each (T := fun b => w5.heap.size ≤ b ∨ b = Q) hPQ (kcell hdr (HXP.out.c 6 _ rfl))
  have b7 := Fr.each (T := fun b => w5.heap.size ≤ b ∨ b = Q) hPQ (kcell hdr (HXP.out.c 7 _ rfl))
  have b8 := Fr.each (T := fun b => w5.heap.size ≤ b ∨ b = Q) hPQ (kcell hdr (HXP.out.c 8 _ rfl))
  have b9 := Fr.each (T := fun b => w5.heap.size ≤ b ∨ b = Q) hPQ (kcell hdr (HXP.out.c 9 _ rfl))
  have b10 := Fr.each (T := fun b => w5.heap.size ≤ b ∨ b = Q) hPQ (kcell hdr (HXP.out.c 10 _ rfl))
  have b11 := Fr.each (T := fun b => w5.heap.size ≤ b ∨ b = Q) hPQ (kcell hdr (HXP.out.c 11 _ rfl))
  have b12 := Fr.each (T := fun b => w5.heap.size ≤ b ∨ b = Q) hPQ (kcell hdr (HXP.out.c 12 _ rfl))
  clear hdr
  refine regf_start (fun b => w5.heap.size ≤ b ∨ b = Q) (by kernel_rfl) ?_
  (refine regf_take 0 (v := ?_) (by rfl) (by kernel_rfl) (by kernel_rfl) (by kernel_rfl) (by exact fun _ _ _ h => h) (by rfl) ?_ ?_; rotate_left; focus (intro w hSw; go_simp; try with_reducible rfl))
  simp only [Act.put, List.setIfInBounds_toArray, List.set_cons_zero, List.set_cons_succ]
  (refine regf_take 1 (v := ?_) (by rfl) (by kernel_rfl) (by kernel_rfl) (by kernel_rfl) (by exact fun _ _ _ h => h) (by rfl) ?_ ?_; rotate_left; focus (intro w hSw; go_simp; try with_reducible rfl))
  simp only [Act.put, List.setIfInBounds_toArray, List.set_cons_zero, List.set_cons_succ]
  (refine regf_take 2 (v := ?_) (by rfl) (by kernel_rfl) (by kernel_rfl) (by kernel_rfl) (by exact fun _ _ _ h => h) (by rfl) ?_ ?_; rotate_left; focus (intro w hSw; go_simp; try with_reducible rfl))
  simp only [Act.put, List.setIfInBounds_toArray, List.set_cons_zero, List.set_cons_succ]
  (refine regf_take 3 (v := ?_) (by rfl) (by kernel_rfl) (by kernel_rfl) (by kernel_rfl) (by exact fun _ _ _ h => h) (by rfl) ?_ ?_; rotate_left; focus (intro w hSw; go_simp; try with_reducible rfl))
  simp only [Act.put, List.setIfInBounds_toArray, List.set_cons_zero, List.set_cons_succ]
  (refine regf_take 5 (v := ?_) (by rfl) (by kernel_rfl) (by kernel_rfl) (by kernel_rfl) (by exact fun _ _ _ h => h) (by rfl) ?_ ?_; rotate_left; focus (intro w hSw; go_simp; try with_reducible rfl))
  simp only [Act.put, List.setIfInBounds_toArray, List.set_cons_zero, List.set_cons_succ]
  (refine regf_take 6 (v := ?_) (by rfl) (by kernel_rfl) (by kernel_rfl) (by kernel_rfl) (by exact fun _ _ _ h => h) (by rfl) ?_ ?_; rotate_left; focus (intro w hSw; go_simp; try with_reducible rfl))
  simp only [Act.put, List.setIfInBounds_toArray, List.set_cons_zero, List.set_cons_succ]
  (refine regf_take 7 (v := ?_) (by rfl) (by kernel_rfl) (by kernel_rfl) (by kernel_rfl) (by exact fun _ _ _ h => h) (by rfl) ?_ ?_; rotate_left; focus (intro w hSw; go_simp; try with_reducible rfl))
  simp only [Act.put, List.setIfInBounds_toArray, List.set_cons_zero, List.set_cons_succ]
  (refine regf_take 8 (v := ?_) (by rfl) (by kernel_rfl) (by kernel_rfl) (by kernel_rfl) (by exact fun _ _ _ h => h) (by rfl) ?_ ?_; rotate_left; focus (intro w hSw; go_simp; try with_reducible rfl))
  simp only [Act.put, List.setIfInBounds_toArray, List.set_cons_zero, List.set_cons_succ]
  (refine regf_take 9 (v := ?_) (by rfl) (by kernel_rfl) (by kernel_rfl) (by kernel_rfl) (by exact fun _ _ _ h => h) (by rfl) ?_ ?_; rotate_left; focus (intro w hSw; go_simp; try with_reducible rfl))
  simp only [Act.put, List.setIfInBounds_toArray, List.set_cons_zero, List.set_cons_succ]
  (refine regf_take 10 (v := ?_) (by rfl) (by kernel_rfl) (by kernel_rfl) (by kernel_rfl) (by exact fun _ _ _ h => h) (by rfl) ?_ ?_; rotate_left; focus (intro w hSw; go_simp; try with_reducible rfl))
  simp only [Act.put, List.setIfInBounds_toArray, List.set_cons_zero, List.set_cons_succ]
  (refine regf_take 11 (v := ?_) (by rfl) (by kernel_rfl) (by kernel_rfl) (by kernel_rfl) (by exact fun _ _ _ h => h) (by rfl) ?_ ?_; rotate_left; focus (intro w hSw; go_simp; try with_reducible rfl))
  simp only [Act.put, List.setIfInBounds_toArray, List.set_cons_zero, List.set_cons_succ]
  (refine regf_take 12 (v := ?_) (by rfl) (by kernel_rfl) (by kernel_rfl) (by kernel_rfl) (by exact fun _ _ _ h => h) (by rfl) ?_ ?_; rotate_left; focus (intro w hSw; go_simp; try with_reducible rfl))
  simp only [Act.put, List.setIfInBounds_toArray, List.set_cons_zero, List.set_cons_succ]
  (refine regf_take 13 (v := ?_) (by rfl) (by kernel_rfl) (by kernel_rfl) (by kernel_rfl) (by exact fun _ _ _ h => h) (by rfl) ?_ ?_; rotate_left; focus (intro w hSw; go_simp; try with_reducible rfl))
  simp only [Act.put, List.setIfInBounds_toArray, List.set_cons_zero, List.set_cons_succ]
  (refine regf_take 14 (v := ?_) (by rfl) (by kernel_rfl) (by kernel_rfl) (by kernel_rfl) (by exact fun _ _ _ h => h) (by rfl) ?_ ?_; rotate_left; focus (intro w hSw; go_simp; try with_reducible rfl))
  simp only [Act.put, List.setIfInBounds_toArray, List.set_cons_zero, List.set_cons_succ]
  (refine regf_take 15 (v := ?_) (by rfl) (by kernel_rfl) (by kernel_rfl) (by kernel_rfl) (by exact fun _ _ _ h => h) (by rfl) ?_ ?_; rotate_left; focus (intro w hSw; go_simp; try with_reducible rfl))
  simp only [Act.put, List.setIfInBounds_toArray, List.set_cons_zero, List.set_cons_succ]
  (refine regf_take 17 (v := ?_) (by rfl) (by kernel_rfl) (by kernel_rfl) (by kernel_rfl) (by exact fun _ _ _ h => h) (by rfl) ?_ ?_; rotate_left; focus (intro w hSw; go_simp; try with_reducible rfl))
  simp only [Act.put, List.setIfInBounds_toArray, List.set_cons_zero, List.set_cons_succ]
  (refine regf_take 18 (v := ?_) (by rfl) (by kernel_rfl) (by kernel_rfl) (by kernel_rfl) (by exact fun _ _ _ h => h) (by rfl) ?_ ?_; rotate_left; focus (intro w hSw; go_simp; try with_reducible rfl))
  simp only [Act.put, List.setIfInBounds_toArray, List.set_cons_zero, List.set_cons_succ]
  (refine regf_take 19 (v := ?_) (by rfl) (by kernel_rfl) (by kernel_rfl) (by kernel_rfl) (by exact fun _ _ _ h => h) (by rfl) ?_ ?_; rotate_left; focus (intro w hSw; go_simp; try with_reducible rfl))
  simp only [Act.put, List.setIfInBounds_toArray, List.set_cons_zero, List.set_cons_succ]
  (refine regf_take 20 (v := ?_) (by rfl) (by kernel_rfl) (by kernel_rfl) (by kernel_rfl) (by exact fun _ _ _ h => h) (by rfl) ?_ ?_; rotate_left; focus (intro w hSw; go_simp; try with_reducible rfl))
  simp only [Act.put, List.setIfInBounds_toArray, List.set_cons_zero, List.set_cons_succ]
  (refine regf_take 21 (v := ?_) (by rfl) (by kernel_rfl) (by kernel_rfl) (by kernel_rfl) (by exact fun _ _ _ h => h) (by rfl) ?_ ?_; rotate_left; focus (intro w hSw; go_simp; try with_reducible rfl))
  simp only [Act.put, List.setIfInBounds_toArray, List.set_cons_zero, List.set_cons_succ]
  (refine regf_take 22 (v := ?_) (by rfl) (by kernel_rfl) (by kernel_rfl) (by kernel_rfl) (by exact fun _ _ _ h => h) (by rfl) ?_ ?_; rotate_left; focus (intro w hSw; go_simp; try with_reducible rfl))
  simp only [Act.put, List.setIfInBounds_toArray, List.set_cons_zero, List.set_cons_succ]
  (refine regf_take 23 (v := ?_) (by rfl) (by kernel_rfl) (by kernel_rfl) (by kernel_rfl) (by exact fun _ _ _ h => h) (by rfl) ?_ ?_; rotate_left; focus (intro w hSw; go_simp; try with_reducible rfl))
  simp only [Act.put, List.setIfInBounds_toArray, List.set_cons_zero, List.set_cons_succ]
  (refine regf_take 24 (v := ?_) (by rfl) (by kernel_rfl) (by kernel_rfl) (by kernel_rfl) (by exact fun _ _ _ h => h) (by rfl) ?_ ?_; rotate_left; focus (intro w hSw; go_simp; try with_reducible rfl))
  simp only [Act.put, List.setIfInBounds_toArray, List.set_cons_zero, List.set_cons_succ]
  refine regf_call 4 (by kernel_rfl) (by rfl) (fun K hK => ?_)
  go_simp
  go_at_call 34; refine (valuesOf8_any (l := run.values) (goesArrV.after HP5.out.run.values (by repeat (first | exact Below.refl _ _ | assumption | refine Below.drew ?_ | refine below_drewN ?_ _ | refine Below.alloc ?_ (by first | (simp; done) | omega | (simp; omega)) _ | refine Below.setCell ?_ (by first | (simp; done) | omega | (simp; omega)) _))) hnv).mono ?_; rintro e w6 ⟨A6, n6, c6, rfl, ha6, hb6⟩
  refine hK.out _ _ ((Fr.of_below hb6)) ?_
  clear hK K
  try simp only [Act.put, List.setIfInBounds_toArray, List.set_cons_zero, List.set_cons_succ]
  refine regf_call 16 (by kernel_rfl) (by rfl) (fun K hK => ?_)
  go_simp
  go_at_call 33; refine (valueOf8_any (v := run.state) (goesSl.after (goesSl.after HP5.out.run.state (by repeat (first | exact Below.refl _ _ | assumption | refine Below.drew ?_ | refine below_drewN ?_ _ | refine Below.alloc ?_ (by first | (simp; done) | omega | (simp; omega)) _ | refine Below.setCell ?_ (by first | (simp; done) | omega | (simp; omega)) _))) hb6)).mono ?_; rintro e w8 ⟨rfl, hb8⟩
  refine hK.out _ _ ((Fr.of_below hb8)) ?_
  clear hK K
  try simp only [Act.put, List.setIfInBounds_toArray, List.set_cons_zero, List.set_cons_succ]
  (refine regf_take 25 (v := ?_) (by rfl) (by kernel_rfl) (by kernel_rfl) (by kernel_rfl) (by exact fun _ _ _ h => h) (by rfl) ?_ ?_; rotate_left; focus (intro w hSw; go_simp; try with_reducible rfl))
  simp only [Act.put, List.setIfInBounds_toArray, List.set_cons_zero, List.set_cons_succ]
  (refine regf_take 26 (v := ?_) (by rfl) (by kernel_rfl) (by kernel_rfl) (by kernel_rfl) (by exact fun _ _ _ h => h) (by rfl) ?_ ?_; rotate_left; focus (intro w hSw; go_simp; try with_reducible rfl))
  simp only [Act.put, List.setIfInBounds_toArray, List.set_cons_zero, List.set_cons_succ]
  refine regf_call 27 (by kernel_rfl) (by rfl) (fun K hK => ?_)
  refine step_storeB (goesBx.after (goesBx.after (goesBx.after HX5.out (Below.refl _ _).drew) hb6) hb8) (by rfl) 45 _ _ (by rfl) 4 (runV run A6 n6 c6 A4 n4 c4) (by rfl) (by rfl) (by kernel_rfl) (by show 4 + 13 ≤ 22; decide) (by rfl) ?_; intro w9 hx9 hg9
  refine hK.out _ _ ((Fr.of_one hg9 (.inr rfl))) ?_
  clear hK K
  try simp only [Act.put, List.setIfInBounds_toArray, List.set_cons_zero, List.set_cons_succ]
  refine wpAnyH_done (by kernel_rfl) ?_ _
  have HX9 : Hid (Bx (fun b => b = Q) w9 Q (rfV ⟨op, [], tx, idn, run, [], tok, kd, []⟩ .z ⟨A6, n6, c6⟩ ⟨A4, n4, c4⟩ .z .z)) := Lib.hid hx9
  have hb68 : Below w5.heap.size w5 w8 := ((Below.refl w5.heap.size w5).drew.trans hb6).trans (hb8.mono (by have := hb6.size; exact this))
  have HF59 : Hid (Fr (fun b => b = Q) w5 w9) := Lib.hid ((Fr.of_below hb68).trans (Fr.of_one hg9 rfl))
  have HRU : Hid (RunR (fun b => w2.heap.size ≤ b ∧ b ≠ Q) w9 A6 n6 c6 A4 n4 c4 run.values run.names) := Lib.hid (by
    refine ⟨?_, ?_⟩
    · exact goesArr.keep (goesArr.mono (goesArr.after ha6 hb8) (S' := fun b => w2.heap.size ≤ b ∧ b ≠ Q) fun b hb _ => by have : w5.heap.size ≤ b := hb; have := HX5.out.lt; omega) hg9.size fun b hb hlt => hg9.block b hlt (fun e => by injection e with e; exact hb.2 e)
    · exact goesArr.keep (goesArr.after (goesArr.mono (HO4.out.arr (by decide)) (S' := fun b => w2.heap.size ≤ b ∧ b ≠ Q) fun b hb hlt => by have := hb.1; omega) HB5.out) HF59.out.size fun b hb hlt => HF59.out.block b hlt hb.2)
  clear b0 b1 b3 b4 b5 b6 b7 b8 b9 b10 b11 b12 hx9 hg9 hb8 hb6 ha6
  -- MARK
  have hz9 := HF59.out.size
  have hwQ : w.heap.size ≠ Q := by omega
  have hw2l : w.heap.size < w2.heap.size := by omega
  have hwQ2 : w2.heap.size ≤ Q := by omega
  have HBR5 := Lib.hid (goesBx.after HBR4.out HB5.out)
  have HP9 : Hid (RqR (fun b => b < w.heap.size) w9 ⟨op, opts, tx, idn, run, evs, tok, kd, all⟩ o i r1 r2 r3 ev t al) := Lib.hid (goesRq.keep HP5.out hz9 fun b hb hlt => HF59.out.block b hlt (by show b ≠ Q; omega))
  have x1 : w9.cell? ⟨w.heap.size, 1, none⟩ = some (.slice o.a o.n o.c) := HF59.out.cell hwQ (HBR5.out.c 1 _ (show vs[1]? = some (.slice o.a o.n o.c) by rw [HVS.out]; rfl))
  have x17 : w9.cell? ⟨w.heap.size, 17, none⟩ = some (.slice ev.a ev.n ev.c) := HF59.out.cell hwQ (HBR5.out.c 17 _ (show vs[17]? = some (.slice ev.a ev.n ev.c) by rw [HVS.out]; rfl))
  have x21 : w9.cell? ⟨w.heap.size, 21, none⟩ = some (.slice al.a al.n al.c) := HF59.out.cell hwQ (HBR5.out.c 21 _ (show vs[21]? = some (.slice al.a al.n al.c) by rw [HVS.out]; rfl))
  have HBL9 : Hid (Below w.heap.size w w9) := Lib.hid ((HB2.out.trans (HB25.out.mono HB2.out.size)).trans (HF59.out.below (by have := HB2.out.size; omega) fun b hb e => by omega))
  have HX9' : Hid (w.heap.size + 1 ≠ Q) := Lib.hid (by omega)
  have HBZ9 : Hid (Bx (fun b => b = w.heap.size + 1) w9 (w.heap.size + 1) zeroR) := Lib.hid (goesBx.keep (goesBx.after HBZ.out HB25.out) hz9 fun b hb hlt => HF59.out.block b hlt (by rw [hb]; exact HX9'.out))
  obtain ⟨oA, on, oc⟩ := o
  obtain ⟨eA, en, ec⟩ := ev
  obtain ⟨aA, an, ac⟩ := al
  dsimp only at x1 x17 x21
  have hol := HP9.out.options.len
  have hoc := HP9.out.options.cap
  have hom := HP9.out.options.capMax
  have hel := HP9.out.events.len
  have hec := HP9.out.events.cap
  have hem := HP9.out.events.capMax
  have hal := HP9.out.all.len
  have hac := HP9.out.all.cap
  have ham := HP9.out.all.capMax
  have ho1 := HLL.out.opts
  have ho2 := HLL.out.evs
  have ho3 := HLL.out.all
  dsimp only at hol hoc hom hel hec hem hal hac ham ho1 ho2 ho3
  have hob : on ≤ 1048576 := by omega
  have heb : en ≤ 1048576 := by omega
  have hab : an ≤ 1048576 := by omega
  have HOL := Lib.hid hol; clear hol ho1
  have HEL := Lib.hid hel; clear hel ho2
  have HAL := Lib.hid hal; clear hal ho3
  have hqW := HX9.out.lt
  go_wp2_with fail
  try clear g1
  go_loopw [6] (fun i wr => ∃ k A m c, k ≤ on ∧ i = .int .i64 (k : Nat) ∧ Hid (Fr (fun b => b = Q) w9 wr) ∧ Hid (OwnA 88 5 (itemP (fun _ => False) w) w9.heap.size wr A m c ((opts.take k).map Thing.ofPair)) ∧ Hid (Bx (fun b => b = Q) wr Q (rfV ⟨op, [], tx, idn, run, [], tok, kd, []⟩ ⟨A, m, c⟩ ⟨A6, n6, c6⟩ ⟨A4, n4, c4⟩ .z .z))) (fun i _ => on - (intOf i).toNat)
  case atStart => exact ⟨0, none, 0, 0, by omega, rfl, Lib.hid (Fr.refl _ _), Lib.hid OwnA.nil, HX9⟩
  case round =>
    obtain ⟨k, A, m, c, hk, rfl, HF, HO, HX⟩ := hrel
    have hzr := HF.out.size
    have hml := HO.out.len (by decide)
    rw [List.length_map, List.length_take] at hml
    have hmk : m ≤ k := by omega
    clear hml
    have g1 := HF.out.cell hwQ x1
    have hqr := HX.out.lt
    by_cases hlt : k < on
    · obtain ⟨x, hx⟩ : ∃ x, opts[k]? = some x := ⟨_, List.getElem?_eq_getElem (by have := HOL.out; omega)⟩
      obtain ⟨b, ob, rfl, hSb, hbs, HC⟩ := (goesRq.keep HP9.out hzr (fun b hb hlt => HF.out.block b hlt (show b ≠ Q by omega))).options.at (by decide) (by dsimp only; omega)
      obtain ⟨v, _, hp, hv2⟩ := HC k x hx
      obtain ⟨rfl, hx1, hx2⟩ := hp
      have HThing.ofPair : Hid ((opts.take (k + 1)).map Thing.ofPair = (opts.take k).map Thing.ofPair ++ [Thing.ofPair x]) := Lib.hid (tmsq Thing.ofPair hx)
      obtain ⟨T, hT⟩ : ∃ T : Nat → Prop, ∀ b', T b' ↔ (b' = Q ∨ A.map (·.block) = some b') := ⟨fun b' => b' = Q ∨ A.map (·.block) = some b', fun _ => Iff.rfl⟩
      have HT := Lib.hid hT; clear hT
      have HTr : Hid (∀ b', A.map (·.block) = some b' → T b') := Lib.hid (fun b' h => (HT.out b').2 (.inr h))
      have HTQ : Hid (T Q) := Lib.hid ((HT.out Q).2 (.inl rfl))
      have hTb : ∀ b', b' < w9.heap.size → b' ≠ Q → ¬ T b' := fun b' h1 h2 h => by
        rcases (HT.out b').1 h with h | h
        · exact h2 h
        · have := (HO.out.block b' h).1; omega
      have hbW : b < w9.heap.size := by omega
      have hbQ : b ≠ Q := by omega
      have hdr : Below wr.heap.size wr wr.drew := (Below.refl _ _).drew
      have f1 := Fr.each (T := T) (hTb _ (by omega) hwQ) (kcell hdr g1)
      have e0 := Fr.each (T := T) (hTb b hbW hbQ) (kcell hdr (hv2 0 _ rfl))
      have e1 := Fr.each (T := T) (hTb b hbW hbQ) (kcell hdr (hv2 1 _ rfl))
      simp only [Nat.add_zero] at e0
      have q1 := HX.out.c 1 _ rfl
      have hqd : Q < wr.drew.heap.size := hqr
      have hkc : (k : Int) < (on : Int) := by omega
      clear hv2 HC hdr hTb
      go_upto_region 9 with fail
      clear g1
      refine regf_start (T) (by kernel_rfl) ?_
      (refine regf_take 0 (v := ?_) (by rfl) (by kernel_rfl) (by kernel_rfl) (by kernel_rfl) (by exact fun _ _ _ h => h) (by rfl) ?_ ?_; rotate_left; focus (intro w hSw; go_simp; try with_reducible rfl))
      simp only [Act.put, List.setIfInBounds_toArray, List.set_cons_zero, List.set_cons_succ]
      (refine regf_take 2 (v := ?_) (by rfl) (by kernel_rfl) (by kernel_rfl) (by kernel_rfl) (by exact fun _ _ _ h => h) (by rfl) ?_ ?_; rotate_left; focus (intro w hSw; go_simp; try with_reducible rfl))
      simp only [Act.put, List.setIfInBounds_toArray, List.set_cons_zero, List.set_cons_succ]
      (refine regf_take 3 (v := ?_) (by rfl) (by kernel_rfl) (by kernel_rfl) (by kernel_rfl) (by exact fun _ _ _ h => h) (by rfl) ?_ ?_; rotate_left; focus (intro w hSw; go_simp; try with_reducible rfl))
      simp only [Act.put, List.setIfInBounds_toArray, List.set_cons_zero, List.set_cons_succ]
      (refine regf_take 4 (v := ?_) (by rfl) (by kernel_rfl) (by kernel_rfl) (by kernel_rfl) (by exact fun _ _ _ h => h) (by rfl) ?_ ?_; rotate_left; focus (intro w hSw; go_simp; try with_reducible rfl))
      simp only [Act.put, List.setIfInBounds_toArray, List.set_cons_zero, List.set_cons_succ]
      (refine regf_take 5 (v := ?_) (by rfl) (by kernel_rfl) (by kernel_rfl) (by kernel_rfl) (by exact fun _ _ _ h => h) (by rfl) ?_ ?_; rotate_left; focus (intro w hSw; go_simp; try with_reducible rfl))
      simp only [Act.put, List.setIfInBounds_toArray, List.set_cons_zero, List.set_cons_succ]
      (refine regf_take 6 (v := ?_) (by rfl) (by kernel_rfl) (by kernel_rfl) (by kernel_rfl) (by exact fun _ _ _ h => h) (by rfl) ?_ ?_; rotate_left; focus (intro w hSw; go_simp; try with_reducible rfl))
      simp only [Act.put, List.setIfInBounds_toArray, List.set_cons_zero, List.set_cons_succ]
      (refine regf_take 7 (v := ?_) (by rfl) (by kernel_rfl) (by kernel_rfl) (by kernel_rfl) (by exact fun _ _ _ h => h) (by rfl) ?_ ?_; rotate_left; focus (intro w hSw; go_simp; try with_reducible rfl))
      simp only [Act.put, List.setIfInBounds_toArray, List.set_cons_zero, List.set_cons_succ]
      (refine regf_take 8 (v := ?_) (by rfl) (by kernel_rfl) (by kernel_rfl) (by kernel_rfl) (by exact fun _ _ _ h => h) (by rfl) ?_ ?_; rotate_left; focus (intro w hSw; go_simp; try with_reducible rfl))
      simp only [Act.put, List.setIfInBounds_toArray, List.set_cons_zero, List.set_cons_succ]
      (refine regf_take 9 (v := ?_) (by rfl) (by kernel_rfl) (by kernel_rfl) (by kernel_rfl) (by exact fun _ _ _ h => h) (by rfl) ?_ ?_; rotate_left; focus (intro w hSw; go_simp; try with_reducible rfl))
      simp only [Act.put, List.setIfInBounds_toArray, List.set_cons_zero, List.set_cons_succ]
      (refine regf_take 10 (v := ?_) (by rfl) (by kernel_rfl) (by kernel_rfl) (by kernel_rfl) (by exact fun _ _ _ h => h) (by rfl) ?_ ?_; rotate_left; focus (intro w hSw; go_simp; try with_reducible rfl))
      simp only [Act.put, List.setIfInBounds_toArray, List.set_cons_zero, List.set_cons_succ]
      (refine regf_take 11 (v := ?_) (by rfl) (by kernel_rfl) (by kernel_rfl) (by kernel_rfl) (by exact fun _ _ _ h => h) (by rfl) ?_ ?_; rotate_left; focus (intro w hSw; go_simp; try with_reducible rfl))
      simp only [Act.put, List.setIfInBounds_toArray, List.set_cons_zero, List.set_cons_succ]
      (refine regf_take 12 (v := ?_) (by rfl) (by kernel_rfl) (by kernel_rfl) (by kernel_rfl) (by exact fun _ _ _ h => h) (by rfl) ?_ ?_; rotate_left; focus (intro w hSw; go_simp; try with_reducible rfl))
      simp only [Act.put, List.setIfInBounds_toArray, List.set_cons_zero, List.set_cons_succ]
      (refine regf_take 13 (v := ?_) (by rfl) (by kernel_rfl) (by kernel_rfl) (by kernel_rfl) (by exact fun _ _ _ h => h) (by rfl) ?_ ?_; rotate_left; focus (intro w hSw; go_simp; try with_reducible rfl))
      simp only [Act.put, List.setIfInBounds_toArray, List.set_cons_zero, List.set_cons_succ]
      (refine regf_take 14 (v := ?_) (by rfl) (by kernel_rfl) (by kernel_rfl) (by kernel_rfl) (by exact fun _ _ _ h => h) (by rfl) ?_ ?_; rotate_left; focus (intro w hSw; go_simp; try with_reducible rfl))
      simp only [Act.put, List.setIfInBounds_toArray, List.set_cons_zero, List.set_cons_succ]
      refine regf_two 1 15 (by kernel_rfl) (by rfl) (by rfl) (fun K hK => ?_) (fun K hK => ?_)
      focus
        go_simp
        refine hK.out _ _ ((Fr.of_below (Below.refl _ _))) ?_
        clear hK K
        try simp only [Act.put, List.setIfInBounds_toArray, List.set_cons_zero, List.set_cons_succ]
        refine regf_call 15 (by kernel_rfl) (by rfl) (fun K hK => ?_)
        go_simp
        refine hK.out _ _ ((by exact Fr.of_below (by repeat (first | exact Below.refl _ _ | exact below_undrew (Below.refl _ _) | assumption | refine Below.drew ?_ | refine below_drewN ?_ _ | refine Below.alloc ?_ (by simp) _ | refine Below.setCell ?_ (by simp) _)))) ?_
        clear hK K
        try simp only [Act.put, List.setIfInBounds_toArray, List.set_cons_zero, List.set_cons_succ]
        refine regf_call 16 (by kernel_rfl) (by rfl) (fun K hK => ?_)
        refine step_appA rfl tyItem _ _ rfl w9.heap.size _ _ _ ((opts.take k).map Thing.ofPair) rfl (HO.out.after (by repeat (first | exact Below.refl _ _ | assumption | refine Below.drew ?_ | refine below_drewN ?_ _ | refine Below.alloc ?_ (by first | (simp; done) | omega | (simp; omega)) _ | refine Below.setCell ?_ (by first | (simp; done) | omega | (simp; omega)) _))) _ _ _ _ [Thing.ofPair x] rfl (arr_lit (P := itemP (fun _ => False) w) _ #[.string (str x.1), .string (str x.2), .slice none 0 0, .int .i64 0, .string (str [])] (Thing.ofPair x) rfl ⟨_, _, _, rfl, by simp [Thing.ofPair]; omega, by simp [Thing.ofPair]; omega, by simp [Thing.ofPair, Val.none], Arr.nil⟩ (by first | rfl | simp)) itemP_one (fun _ _ _ h => h) (by omega) (by unfold maxLen; omega) (by simp; omega) ?_; intro A5 m5 c5 w5' hown5 hg5 hwh5; have hXq : Bx (fun b => b = Q) w5' Q (rfV ⟨op, [], tx, idn, run, [], tok, kd, []⟩ ⟨A, m, c⟩ ⟨A6, n6, c6⟩ ⟨A4, n4, c4⟩ .z .z) := goesBx.keep (goesBx.after HX.out (by repeat (first | exact Below.refl _ _ | assumption | refine Below.drew ?_ | refine below_drewN ?_ _ | refine Below.alloc ?_ (by first | (simp; done) | omega | (simp; omega)) _ | refine Below.setCell ?_ (by first | (simp; done) | omega | (simp; omega)) _))) hg5.size (fun b' hb hlt => hg5.block b' hlt (fun e => by have := (HO.out.block b' e.symm).1; have := HX9.out.lt; omega)); have p1 := hXq.c 1 _ rfl; have z1 := hXq.fr 1
        refine hK.out _ _ ((Fr.of_grown hg5 HTr.out)) ?_
        clear hK K
        try simp only [Act.put, List.setIfInBounds_toArray, List.set_cons_zero, List.set_cons_succ]
        (refine regf_take 17 (v := ?_) (by rfl) (by kernel_rfl) (by kernel_rfl) (by kernel_rfl) (by exact fun _ _ _ h => h) (by rfl) ?_ ?_; rotate_left; focus (intro w hSw; go_simp; try with_reducible rfl))
        simp only [Act.put, List.setIfInBounds_toArray, List.set_cons_zero, List.set_cons_succ]
        refine regf_call 18 (by kernel_rfl) (by rfl) (fun K hK => ?_)
        go_simp
        refine hK.out _ _ ((Fr.set _ (X := Q) HTQ.out _)) ?_
        clear hK K
        try simp only [Act.put, List.setIfInBounds_toArray, List.set_cons_zero, List.set_cons_succ]
        refine wpAnyH_done (by kernel_rfl) ?_ _
      rotate_left 1
      focus
        go_simp
        refine hK.out _ _ ((by exact Fr.of_below (by repeat (first | exact Below.refl _ _ | exact below_undrew (Below.refl _ _) | assumption | refine Below.drew ?_ | refine below_drewN ?_ _ | refine Below.alloc ?_ (by simp) _ | refine Below.setCell ?_ (by simp) _)))) ?_
        clear hK K
        try simp only [Act.put, List.setIfInBounds_toArray, List.set_cons_zero, List.set_cons_succ]
        refine regf_call 1 (by kernel_rfl) (by rfl) (fun K hK => ?_)
        go_simp
        refine hK.out _ _ ((Fr.of_below (Below.refl _ _))) ?_
        clear hK K
        try simp only [Act.put, List.setIfInBounds_toArray, List.set_cons_zero, List.set_cons_succ]
        refine regf_call 16 (by kernel_rfl) (by rfl) (fun K hK => ?_)
        refine step_appA rfl tyItem _ _ rfl w9.heap.size _ _ _ ((opts.take k).map Thing.ofPair) rfl (HO.out.after (by repeat (first | exact Below.refl _ _ | assumption | refine Below.drew ?_ | refine below_drewN ?_ _ | refine Below.alloc ?_ (by first | (simp; done) | omega | (simp; omega)) _ | refine Below.setCell ?_ (by first | (simp; done) | omega | (simp; omega)) _))) _ _ _ _ [Thing.ofPair x] rfl (arr_lit (P := itemP (fun _ => False) w) _ #[.string (str x.1), .string (str x.2), .slice none 0 0, .int .i64 0, .string (str [])] (Thing.ofPair x) rfl ⟨_, _, _, rfl, by simp [Thing.ofPair]; omega, by simp [Thing.ofPair]; omega, by simp [Thing.ofPair, Val.none], Arr.nil⟩ (by first | rfl | simp)) itemP_one (fun _ _ _ h => h) (by omega) (by unfold maxLen; omega) (by simp; omega) ?_; intro A5 m5 c5 w5' hown5 hg5 hwh5; have hXq : Bx (fun b => b = Q) w5' Q (rfV ⟨op, [], tx, idn, run, [], tok, kd, []⟩ ⟨A, m, c⟩ ⟨A6, n6, c6⟩ ⟨A4, n4, c4⟩ .z .z) := goesBx.keep (goesBx.after HX.out (by repeat (first | exact Below.refl _ _ | assumption | refine Below.drew ?_ | refine below_drewN ?_ _ | refine Below.alloc ?_ (by first | (simp; done) | omega | (simp; omega)) _ | refine Below.setCell ?_ (by first | (simp; done) | omega | (simp; omega)) _))) hg5.size (fun b' hb hlt => hg5.block b' hlt (fun e => by have := (HO.out.block b' e.symm).1; have := HX9.out.lt; omega)); have p1 := hXq.c 1 _ rfl; have z1 := hXq.fr 1
        refine hK.out _ _ ((Fr.of_grown hg5 HTr.out)) ?_
        clear hK K
        try simp only [Act.put, List.setIfInBounds_toArray, List.set_cons_zero, List.set_cons_succ]
        (refine regf_take 17 (v := ?_) (by rfl) (by kernel_rfl) (by kernel_rfl) (by kernel_rfl) (by exact fun _ _ _ h => h) (by rfl) ?_ ?_; rotate_left; focus (intro w hSw; go_simp; try with_reducible rfl))
        simp only [Act.put, List.setIfInBounds_toArray, List.set_cons_zero, List.set_cons_succ]
        refine regf_call 18 (by kernel_rfl) (by rfl) (fun K hK => ?_)
        go_simp
        refine hK.out _ _ ((Fr.set _ (X := Q) HTQ.out _)) ?_
        clear hK K
        try simp only [Act.put, List.setIfInBounds_toArray, List.set_cons_zero, List.set_cons_succ]
        refine wpAnyH_done (by kernel_rfl) ?_ _
      all_goals
        clear q1 p1 z1
        have HO5 := Lib.hid hown5
        have HF5 : Hid (Fr (fun b => b = Q) w9 w5') := Lib.hid ((HF.out.trans (Fr.of_below (by repeat (first | exact Below.refl _ _ | assumption | refine Below.drew ?_ | refine below_drewN ?_ _ | refine Below.alloc ?_ (by first | (simp; done) | omega | (simp; omega)) _ | refine Below.setCell ?_ (by first | (simp; done) | omega | (simp; omega)) _)))).seq (Fr.of_grown (S := fun b' => A.map (·.block) = some b') hg5 (fun b' e => e.symm ▸ e)) (fun x' hx' h => by have := (HO.out.block x' h).1; omega))
        have HXq := Lib.hid hXq
        clear hown5 hg5 hwh5 hXq f1
        go_wp2_with fail
        have hset : Fr (fun b => b = Q) w5' (w5'.setCell ⟨Q, 1, none⟩ (.slice A5 m5 c5)) := Fr.set (S := fun b => b = Q) w5' (X := Q) rfl _
        refine ⟨⟨k + 1, A5, m5, c5, by omega, by go_num, Lib.hid (HF5.out.trans hset), Lib.hid ?_, Lib.hid (HXq.out.put 1 (.slice A5 m5 c5) (by show 1 < 22; decide))⟩, by simp [intOf]; omega⟩
        rw [HThing.ofPair.out]
        exact OwnA.keepS HO5.out (S := fun b => w9.heap.size ≤ b) (fun b e => (HO5.out.block b e).1) (fun b hb hlt => hset.block b hlt (by show b ≠ Q; have := HX9.out.lt; omega))
    · obtain rfl : on = k := by omega
      have hfull : opts.take on = opts := List.take_of_length_le (by have := HOL.out; omega)
      rw [hfull] at HO
      obtain ⟨w10, hwo⟩ : ∃ wo, wo = wr := ⟨_, rfl⟩
      subst hwo
      obtain ⟨Aw10, hAo⟩ : ∃ x, x = A := ⟨_, rfl⟩
      subst hAo
      obtain ⟨mw10, hmo⟩ : ∃ x, x = m := ⟨_, rfl⟩
      subst hmo
      obtain ⟨cw10, hco⟩ : ∃ x, x = c := ⟨_, rfl⟩
      subst hco
      have HFw10 := HF
      have HOw10 := HO
      have HXw10 := HX
      have hzw10 := hzr
      clear HF HO HX hfull hlt hk hqr hmk hqW hzr
      have HPw10 : Hid (RqR (fun b => b < w.heap.size) w10 ⟨op, opts, tx, idn, run, evs, tok, kd, all⟩ ⟨oA, on, oc⟩ i r1 r2 r3 ⟨eA, en, ec⟩ t ⟨aA, an, ac⟩) := Lib.hid (goesRq.keep HP9.out hzw10 fun b hb hlt => HFw10.out.block b hlt (by show b ≠ Q; omega))
      have y17 := HFw10.out.cell hwQ x17
      have y21 := HFw10.out.cell hwQ x21
      have hqW := HXw10.out.lt
      go_wp2_with fail
      try clear g1
      go_loopw [7] (fun i wr => ∃ k A m c, k ≤ en ∧ i = .int .i64 (k : Nat) ∧ Hid (Fr (fun b => b = Q) w10 wr) ∧ Hid (OwnA 88 5 (itemP (fun _ => False) w) w10.heap.size wr A m c ((evs.take k).map Thing.ofText)) ∧ Hid (Bx (fun b => b = Q) wr Q (rfV ⟨op, [], tx, idn, run, [], tok, kd, []⟩ ⟨Aw10, mw10, cw10⟩ ⟨A6, n6, c6⟩ ⟨A4, n4, c4⟩ ⟨A, m, c⟩ .z))) (fun i _ => en - (intOf i).toNat)
      case atStart => exact ⟨0, none, 0, 0, by omega, rfl, Lib.hid (Fr.refl _ _), Lib.hid OwnA.nil, HXw10⟩
      case round =>
        obtain ⟨k, A, m, c, hk, rfl, HF, HO, HX⟩ := hrel
        have hzr := HF.out.size
        have hml := HO.out.len (by decide)
        rw [List.length_map, List.length_take] at hml
        have hmk : m ≤ k := by omega
        clear hml
        have g1 := HF.out.cell hwQ y17
        have hqr := HX.out.lt
        by_cases hlt : k < en
        · obtain ⟨x, hx⟩ : ∃ x, evs[k]? = some x := ⟨_, List.getElem?_eq_getElem (by have := HEL.out; omega)⟩
          obtain ⟨b, ob, rfl, hSb, hbs, HC⟩ := (goesRq.keep HPw10.out hzr (fun b hb hlt => HF.out.block b hlt (show b ≠ Q by omega))).events.at (by decide) (by dsimp only; omega)
          obtain ⟨v, _, hp, hv2⟩ := HC k x hx
          obtain ⟨rfl, hx1⟩ := hp
          have HThing.ofText : Hid ((evs.take (k + 1)).map Thing.ofText = (evs.take k).map Thing.ofText ++ [Thing.ofText x]) := Lib.hid (tmsq Thing.ofText hx)
          obtain ⟨T, hT⟩ : ∃ T : Nat → Prop, ∀ b', T b' ↔ (b' = Q ∨ A.map (·.block) = some b') := ⟨fun b' => b' = Q ∨ A.map (·.block) = some b', fun _ => Iff.rfl⟩
          have HT := Lib.hid hT; clear hT
          have HTr : Hid (∀ b', A.map (·.block) = some b' → T b') := Lib.hid (fun b' h => (HT.out b').2 (.inr h))
          have HTQ : Hid (T Q) := Lib.hid ((HT.out Q).2 (.inl rfl))
          have hTb : ∀ b', b' < w10.heap.size → b' ≠ Q → ¬ T b' := fun b' h1 h2 h => by
            rcases (HT.out b').1 h with h | h
            · exact h2 h
            · have := (HO.out.block b' h).1; omega
          have hbW : b < w10.heap.size := by omega
          have hbQ : b ≠ Q := by omega
          have hdr : Below wr.heap.size wr wr.drew := (Below.refl _ _).drew
          have f1 := Fr.each (T := T) (hTb _ (by omega) hwQ) (kcell hdr g1)
          have e0 := Fr.each (T := T) (hTb b hbW hbQ) (kcell hdr (hv2 0 _ rfl))
          simp only [Nat.mul_one, Nat.add_zero] at e0
          have q1 := HX.out.c 17 _ rfl
          have hqd : Q < wr.drew.heap.size := hqr
          have hkc : (k : Int) < (en : Int) := by omega
          clear hv2 HC hdr hTb
          go_upto_region 13 with fail
          clear g1
          refine regf_start (T) (by kernel_rfl) ?_
          (refine regf_take 0 (v := ?_) (by rfl) (by kernel_rfl) (by kernel_rfl) (by kernel_rfl) (by exact fun _ _ _ h => h) (by rfl) ?_ ?_; rotate_left; focus (intro w hSw; go_simp; try with_reducible rfl))
          simp only [Act.put, List.setIfInBounds_toArray, List.set_cons_zero, List.set_cons_succ]
          (refine regf_take 2 (v := ?_) (by rfl) (by kernel_rfl) (by kernel_rfl) (by kernel_rfl) (by exact fun _ _ _ h => h) (by rfl) ?_ ?_; rotate_left; focus (intro w hSw; go_simp; try with_reducible rfl))
          simp only [Act.put, List.setIfInBounds_toArray, List.set_cons_zero, List.set_cons_succ]
          (refine regf_take 3 (v := ?_) (by rfl) (by kernel_rfl) (by kernel_rfl) (by kernel_rfl) (by exact fun _ _ _ h => h) (by rfl) ?_ ?_; rotate_left; focus (intro w hSw; go_simp; try with_reducible rfl))
          simp only [Act.put, List.setIfInBounds_toArray, List.set_cons_zero, List.set_cons_succ]
          (refine regf_take 4 (v := ?_) (by rfl) (by kernel_rfl) (by kernel_rfl) (by kernel_rfl) (by exact fun _ _ _ h => h) (by rfl) ?_ ?_; rotate_left; focus (intro w hSw; go_simp; try with_reducible rfl))
          simp only [Act.put, List.setIfInBounds_toArray, List.set_cons_zero, List.set_cons_succ]
          (refine regf_take 5 (v := ?_) (by rfl) (by kernel_rfl) (by kernel_rfl) (by kernel_rfl) (by exact fun _ _ _ h => h) (by rfl) ?_ ?_; rotate_left; focus (intro w hSw; go_simp; try with_reducible rfl))
          simp only [Act.put, List.setIfInBounds_toArray, List.set_cons_zero, List.set_cons_succ]
          (refine regf_take 6 (v := ?_) (by rfl) (by kernel_rfl) (by kernel_rfl) (by kernel_rfl) (by exact fun _ _ _ h => h) (by rfl) ?_ ?_; rotate_left; focus (intro w hSw; go_simp; try with_reducible rfl))
          simp only [Act.put, List.setIfInBounds_toArray, List.set_cons_zero, List.set_cons_succ]
          (refine regf_take 7 (v := ?_) (by rfl) (by kernel_rfl) (by kernel_rfl) (by kernel_rfl) (by exact fun _ _ _ h => h) (by rfl) ?_ ?_; rotate_left; focus (intro w hSw; go_simp; try with_reducible rfl))
          simp only [Act.put, List.setIfInBounds_toArray, List.set_cons_zero, List.set_cons_succ]
          refine regf_two 1 8 (by kernel_rfl) (by rfl) (by rfl) (fun K hK => ?_) (fun K hK => ?_)
          focus
            go_simp
            refine hK.out _ _ ((Fr.of_below (Below.refl _ _))) ?_
            clear hK K
            try simp only [Act.put, List.setIfInBounds_toArray, List.set_cons_zero, List.set_cons_succ]
            refine regf_call 8 (by kernel_rfl) (by rfl) (fun K hK => ?_)
            go_simp
            refine hK.out _ _ ((by exact Fr.of_below (by repeat (first | exact Below.refl _ _ | exact below_undrew (Below.refl _ _) | assumption | refine Below.drew ?_ | refine below_drewN ?_ _ | refine Below.alloc ?_ (by simp) _ | refine Below.setCell ?_ (by simp) _)))) ?_
            clear hK K
            try simp only [Act.put, List.setIfInBounds_toArray, List.set_cons_zero, List.set_cons_succ]
            refine regf_call 9 (by kernel_rfl) (by rfl) (fun K hK => ?_)
            refine step_appA rfl tyItem _ _ rfl w10.heap.size _ _ _ ((evs.take k).map Thing.ofText) rfl (HO.out.after (by repeat (first | exact Below.refl _ _ | assumption | refine Below.drew ?_ | refine below_drewN ?_ _ | refine Below.alloc ?_ (by first | (simp; done) | omega | (simp; omega)) _ | refine Below.setCell ?_ (by first | (simp; done) | omega | (simp; omega)) _))) _ _ _ _ [Thing.ofText x] rfl (arr_lit (P := itemP (fun _ => False) w) _ #[.string (str x), .string (str []), .slice none 0 0, .int .i64 0, .string (str [])] (Thing.ofText x) rfl ⟨_, _, _, rfl, by simp [Thing.ofText]; omega, by simp [Thing.ofText], by simp [Thing.ofText, Val.none], Arr.nil⟩ (by first | rfl | simp)) itemP_one (fun _ _ _ h => h) (by omega) (by unfold maxLen; omega) (by simp; omega) ?_; intro A5 m5 c5 w5' hown5 hg5 hwh5; have hXq : Bx (fun b => b = Q) w5' Q (rfV ⟨op, [], tx, idn, run, [], tok, kd, []⟩ ⟨Aw10, mw10, cw10⟩ ⟨A6, n6, c6⟩ ⟨A4, n4, c4⟩ ⟨A, m, c⟩ .z) := goesBx.keep (goesBx.after HX.out (by repeat (first | exact Below.refl _ _ | assumption | refine Below.drew ?_ | refine below_drewN ?_ _ | refine Below.alloc ?_ (by first | (simp; done) | omega | (simp; omega)) _ | refine Below.setCell ?_ (by first | (simp; done) | omega | (simp; omega)) _))) hg5.size (fun b' hb hlt => hg5.block b' hlt (fun e => by have := (HO.out.block b' e.symm).1; have := HXw10.out.lt; omega)); have p1 := hXq.c 17 _ rfl; have z1 := hXq.fr 17
            refine hK.out _ _ ((Fr.of_grown hg5 HTr.out)) ?_
            clear hK K
            try simp only [Act.put, List.setIfInBounds_toArray, List.set_cons_zero, List.set_cons_succ]
            (refine regf_take 10 (v := ?_) (by rfl) (by kernel_rfl) (by kernel_rfl) (by kernel_rfl) (by exact fun _ _ _ h => h) (by rfl) ?_ ?_; rotate_left; focus (intro w hSw; go_simp; try with_reducible rfl))
            simp only [Act.put, List.setIfInBounds_toArray, List.set_cons_zero, List.set_cons_succ]
            refine regf_call 11 (by kernel_rfl) (by rfl) (fun K hK => ?_)
            go_simp
            refine hK.out _ _ ((Fr.set _ (X := Q) HTQ.out _)) ?_
            clear hK K
            try simp only [Act.put, List.setIfInBounds_toArray, List.set_cons_zero, List.set_cons_succ]
            refine wpAnyH_done (by kernel_rfl) ?_ _
          rotate_left 1
          focus
            go_simp
            refine hK.out _ _ ((by exact Fr.of_below (by repeat (first | exact Below.refl _ _ | exact below_undrew (Below.refl _ _) | assumption | refine Below.drew ?_ | refine below_drewN ?_ _ | refine Below.alloc ?_ (by simp) _ | refine Below.setCell ?_ (by simp) _)))) ?_
            clear hK K
            try simp only [Act.put, List.setIfInBounds_toArray, List.set_cons_zero, List.set_cons_succ]
            refine regf_call 1 (by kernel_rfl) (by rfl) (fun K hK => ?_)
            go_simp
            refine hK.out _ _ ((Fr.of_below (Below.refl _ _))) ?_
            clear hK K
            try simp only [Act.put, List.setIfInBounds_toArray, List.set_cons_zero, List.set_cons_succ]
            refine regf_call 9 (by kernel_rfl) (by rfl) (fun K hK => ?_)
            refine step_appA rfl tyItem _ _ rfl w10.heap.size _ _ _ ((evs.take k).map Thing.ofText) rfl (HO.out.after (by repeat (first | exact Below.refl _ _ | assumption | refine Below.drew ?_ | refine below_drewN ?_ _ | refine Below.alloc ?_ (by first | (simp; done) | omega | (simp; omega)) _ | refine Below.setCell ?_ (by first | (simp; done) | omega | (simp; omega)) _))) _ _ _ _ [Thing.ofText x] rfl (arr_lit (P := itemP (fun _ => False) w) _ #[.string (str x), .string (str []), .slice none 0 0, .int .i64 0, .string (str [])] (Thing.ofText x) rfl ⟨_, _, _, rfl, by simp [Thing.ofText]; omega, by simp [Thing.ofText], by simp [Thing.ofText, Val.none], Arr.nil⟩ (by first | rfl | simp)) itemP_one (fun _ _ _ h => h) (by omega) (by unfold maxLen; omega) (by simp; omega) ?_; intro A5 m5 c5 w5' hown5 hg5 hwh5; have hXq : Bx (fun b => b = Q) w5' Q (rfV ⟨op, [], tx, idn, run, [], tok, kd, []⟩ ⟨Aw10, mw10, cw10⟩ ⟨A6, n6, c6⟩ ⟨A4, n4, c4⟩ ⟨A, m, c⟩ .z) := goesBx.keep (goesBx.after HX.out (by repeat (first | exact Below.refl _ _ | assumption | refine Below.drew ?_ | refine below_drewN ?_ _ | refine Below.alloc ?_ (by first | (simp; done) | omega | (simp; omega)) _ | refine Below.setCell ?_ (by first | (simp; done) | omega | (simp; omega)) _))) hg5.size (fun b' hb hlt => hg5.block b' hlt (fun e => by have := (HO.out.block b' e.symm).1; have := HXw10.out.lt; omega)); have p1 := hXq.c 17 _ rfl; have z1 := hXq.fr 17
            refine hK.out _ _ ((Fr.of_grown hg5 HTr.out)) ?_
            clear hK K
            try simp only [Act.put, List.setIfInBounds_toArray, List.set_cons_zero, List.set_cons_succ]
            (refine regf_take 10 (v := ?_) (by rfl) (by kernel_rfl) (by kernel_rfl) (by kernel_rfl) (by exact fun _ _ _ h => h) (by rfl) ?_ ?_; rotate_left; focus (intro w hSw; go_simp; try with_reducible rfl))
            simp only [Act.put, List.setIfInBounds_toArray, List.set_cons_zero, List.set_cons_succ]
            refine regf_call 11 (by kernel_rfl) (by rfl) (fun K hK => ?_)
            go_simp
            refine hK.out _ _ ((Fr.set _ (X := Q) HTQ.out _)) ?_
            clear hK K
            try simp only [Act.put, List.setIfInBounds_toArray, List.set_cons_zero, List.set_cons_succ]
            refine wpAnyH_done (by kernel_rfl) ?_ _
          all_goals
            clear q1 p1 z1
            have HO5 := Lib.hid hown5
            have HF5 : Hid (Fr (fun b => b = Q) w10 w5') := Lib.hid ((HF.out.trans (Fr.of_below (by repeat (first | exact Below.refl _ _ | assumption | refine Below.drew ?_ | refine below_drewN ?_ _ | refine Below.alloc ?_ (by first | (simp; done) | omega | (simp; omega)) _ | refine Below.setCell ?_ (by first | (simp; done) | omega | (simp; omega)) _)))).seq (Fr.of_grown (S := fun b' => A.map (·.block) = some b') hg5 (fun b' e => e.symm ▸ e)) (fun x' hx' h => by have := (HO.out.block x' h).1; omega))
            have HXq := Lib.hid hXq
            clear hown5 hg5 hwh5 hXq f1
            go_wp2_with fail
            have hset : Fr (fun b => b = Q) w5' (w5'.setCell ⟨Q, 17, none⟩ (.slice A5 m5 c5)) := Fr.set (S := fun b => b = Q) w5' (X := Q) rfl _
            refine ⟨⟨k + 1, A5, m5, c5, by omega, by go_num, Lib.hid (HF5.out.trans hset), Lib.hid ?_, Lib.hid (HXq.out.put 17 (.slice A5 m5 c5) (by show 17 < 22; decide))⟩, by simp [intOf]; omega⟩
            rw [HThing.ofText.out]
            exact OwnA.keepS HO5.out (S := fun b => w10.heap.size ≤ b) (fun b e => (HO5.out.block b e).1) (fun b hb hlt => hset.block b hlt (by show b ≠ Q; have := HXw10.out.lt; omega))
        · obtain rfl : en = k := by omega
          have hfull : evs.take en = evs := List.take_of_length_le (by have := HEL.out; omega)
          rw [hfull] at HO
          obtain ⟨w11, hwo⟩ : ∃ wo, wo = wr := ⟨_, rfl⟩
          subst hwo
          obtain ⟨Aw11, hAo⟩ : ∃ x, x = A := ⟨_, rfl⟩
          subst hAo
          obtain ⟨mw11, hmo⟩ : ∃ x, x = m := ⟨_, rfl⟩
          subst hmo
          obtain ⟨cw11, hco⟩ : ∃ x, x = c := ⟨_, rfl⟩
          subst hco
          have HFw11 := HF
          have HOw11 := HO
          have HXw11 := HX
          have hzw11 := hzr
          clear HF HO HX hfull hlt hk hqr hmk hqW hzr
          have HPw11 : Hid (RqR (fun b => b < w.heap.size) w11 ⟨op, opts, tx, idn, run, evs, tok, kd, all⟩ ⟨oA, on, oc⟩ i r1 r2 r3 ⟨eA, en, ec⟩ t ⟨aA, an, ac⟩) := Lib.hid (goesRq.keep HPw10.out hzw11 fun b hb hlt => HFw11.out.block b hlt (by show b ≠ Q; omega))
          have v21 := HFw11.out.cell hwQ y21
          have hqW := HXw11.out.lt
          go_wp2_with fail
          clear g1
          obtain ⟨ρ0, hρ0⟩ : ∃ ρ0 : Nat → Nat, ρ0 = xt (fun b => if b = Q then 8 else 0) w11.heap.size 5 := ⟨_, rfl⟩
          have HR0 : Hid (∀ b, b < w11.heap.size → ρ0 b = if b = Q then 8 else 0) := Lib.hid (fun b hb => by rw [hρ0, xt_lt hb])
          clear hρ0
          go_loopw [8] (fun i wr => ∃ ρ k A m c, k ≤ an ∧ i = .int .i64 (k : Nat) ∧ Hid (∀ b, b < w11.heap.size → ρ b = if b = Q then 8 else 0) ∧ Hid (Fr (fun b => b = Q) w11 wr) ∧ Hid (OwnS 81 4 (stmRf (Rl ρ 5) wr) (Rl ρ 4) wr A m c (all.take k)) ∧ Hid (Bx (fun b => b = Q) wr Q (rfV ⟨op, [], tx, idn, run, [], tok, kd, []⟩ ⟨Aw10, mw10, cw10⟩ ⟨A6, n6, c6⟩ ⟨A4, n4, c4⟩ ⟨Aw11, mw11, cw11⟩ ⟨A, m, c⟩))) (fun i _ => an - (intOf i).toNat)
          case atStart => exact ⟨ρ0, 0, none, 0, 0, by omega, rfl, HR0, Lib.hid (Fr.refl _ _), Lib.hid OwnS.nil, HXw11⟩
          case round =>
            obtain ⟨ρ, k, A, m, c, hk, rfl, HRO, HF, HK, HX⟩ := hrel
            have hzr := HF.out.size
            have hml := HK.out.len (by decide)
            rw [List.length_take] at hml
            have hmk : m ≤ k := by omega
            clear hml
            have g1 := HF.out.cell hwQ v21
            have hqr := HX.out.lt
            by_cases hlt : k < an
            · obtain ⟨x, hx⟩ : ∃ x, all[k]? = some x := ⟨_, List.getElem?_eq_getElem (by have := HAL.out; omega)⟩
              have hxv := HLL.out.each x (List.mem_of_getElem? hx)
              have HPr := Lib.hid (goesRq.keep HPw11.out hzr (fun b hb hlt => HF.out.block b hlt (show b ≠ Q by omega)))
              obtain ⟨b, ob, rfl, hSb, hbs, HC⟩ := HPr.out.all.at (by decide) (by dsimp only; omega)
              obtain ⟨v, _, hp, hv2⟩ := HC k x hx
              obtain ⟨Ai, ni, ci, Av, nv, cv, rfl, hxt, hsi, hav⟩ := hp
              have hnv2 : nv ≤ 1048576 := by have := hav.len; omega
              have hxi : x.ident.length ≤ 9223372036854775807 := by have := hsi.len; have := hsi.cap; have := hsi.capMax; omega
              have HSI := Lib.hid hsi
              have HAV := Lib.hid hav
              have HTK : Hid (all.take (k + 1) = all.take k ++ [x]) := Lib.hid (by rw [List.take_add_one, hx]; rfl)
              obtain ⟨T, hT⟩ : ∃ T : Nat → Prop, ∀ b', T b' ↔ (b' = Q ∨ ρ b' = 4) := ⟨fun b' => b' = Q ∨ ρ b' = 4, fun _ => Iff.rfl⟩
              have HT := Lib.hid hT; clear hT
              have HTQ : Hid (T Q) := Lib.hid ((HT.out Q).2 (.inl rfl))
              have hTb : ∀ b', b' < w11.heap.size → b' ≠ Q → ¬ T b' := fun b' h1 h2 h => by
                rcases (HT.out b').1 h with h | h
                · exact h2 h
                · rw [HRO.out b' h1, if_neg h2] at h; omega
              have HTB := Lib.hid hTb
              have hbW : b < w11.heap.size := by omega
              have hbQ : b ≠ Q := by omega
              have hdr : Below wr.heap.size wr wr.drew := (Below.refl _ _).drew
              have f1 := Fr.each (T := T) (hTb _ (by omega) hwQ) (kcell hdr g1)
              have e0 := Fr.each (T := T) (hTb b hbW hbQ) (kcell hdr (hv2 0 _ rfl))
              have e1 := Fr.each (T := T) (hTb b hbW hbQ) (kcell hdr (hv2 1 _ rfl))
              have e2 := Fr.each (T := T) (hTb b hbW hbQ) (kcell hdr (hv2 2 _ rfl))
              have e3 := Fr.each (T := T) (hTb b hbW hbQ) (kcell hdr (hv2 3 _ rfl))
              simp only [Nat.add_zero] at e0
              have hcI : ∀ w', Fr T wr.drew w' → (convert 23 9 (.slice Ai ni ci)).run Try.prog w' = .ok (.string (str x.ident)) w' := fun w' h => conv_sl (goesSl.keep (goesSl.after HSI.out hdr) h.size fun b' hb hlt => h.block b' hlt (HTB.out b' (by omega) (by omega)))
              have q1 := HX.out.c 21 _ rfl
              have hkc : (k : Int) < (an : Int) := by omega
              clear hv2 HC hTb hsi hav hx
              go_upto_region 17 with fail
              clear g1
              refine regf_start (T) (by kernel_rfl) ?_
              (refine regf_take 0 (v := ?_) (by rfl) (by kernel_rfl) (by kernel_rfl) (by kernel_rfl) (by exact fun _ _ _ h => h) (by rfl) ?_ ?_; rotate_left; focus (intro w hSw; go_simp; try with_reducible rfl))
              simp only [Act.put, List.setIfInBounds_toArray, List.set_cons_zero, List.set_cons_succ]
              (refine regf_take 2 (v := ?_) (by rfl) (by kernel_rfl) (by kernel_rfl) (by kernel_rfl) (by exact fun _ _ _ h => h) (by rfl) ?_ ?_; rotate_left; focus (intro w hSw; go_simp; try with_reducible rfl))
              simp only [Act.put, List.setIfInBounds_toArray, List.set_cons_zero, List.set_cons_succ]
              (refine regf_take 3 (v := ?_) (by rfl) (by kernel_rfl) (by kernel_rfl) (by kernel_rfl) (by exact fun _ _ _ h => h) (by rfl) ?_ ?_; rotate_left; focus (intro w hSw; go_simp; try with_reducible rfl))
              simp only [Act.put, List.setIfInBounds_toArray, List.set_cons_zero, List.set_cons_succ]
              (refine regf_take 4 (v := ?_) (by rfl) (by kernel_rfl) (by kernel_rfl) (by kernel_rfl) (by exact fun _ _ _ h => h) (by rfl) ?_ ?_; rotate_left; focus (intro w hSw; go_simp; try with_reducible rfl))
              simp only [Act.put, List.setIfInBounds_toArray, List.set_cons_zero, List.set_cons_succ]
              (refine regf_take 5 (v := ?_) (by rfl) (by kernel_rfl) (by kernel_rfl) (by kernel_rfl) (by exact fun _ _ _ h => h) (by rfl) ?_ ?_; rotate_left; focus (intro w hSw; go_simp; try with_reducible rfl))
              simp only [Act.put, List.setIfInBounds_toArray, List.set_cons_zero, List.set_cons_succ]
              (refine regf_take 6 (v := ?_) (by rfl) (by kernel_rfl) (by kernel_rfl) (by kernel_rfl) (by exact fun _ _ _ h => h) (by rfl) ?_ ?_; rotate_left; focus (intro w hSw; go_simp; try with_reducible rfl))
              simp only [Act.put, List.setIfInBounds_toArray, List.set_cons_zero, List.set_cons_succ]
              (refine regf_take 7 (v := ?_) (by rfl) (by kernel_rfl) (by kernel_rfl) (by kernel_rfl) (by exact fun _ _ _ h => h) (by rfl) ?_ ?_; rotate_left; focus (intro w hSw; go_simp; try with_reducible rfl))
              simp only [Act.put, List.setIfInBounds_toArray, List.set_cons_zero, List.set_cons_succ]
              (refine regf_take 8 (v := ?_) (by rfl) (by kernel_rfl) (by kernel_rfl) (by kernel_rfl) (by exact fun _ _ _ h => h) (by rfl) ?_ ?_; rotate_left; focus (intro w hSw; go_simp; try with_reducible rfl))
              simp only [Act.put, List.setIfInBounds_toArray, List.set_cons_zero, List.set_cons_succ]
              (refine regf_take 9 (v := ?_) (by rfl) (by kernel_rfl) (by kernel_rfl) (by kernel_rfl) (by exact fun _ _ _ h => h) (by rfl) ?_ ?_; rotate_left; focus (intro w hSw; go_simp; try with_reducible rfl))
              simp only [Act.put, List.setIfInBounds_toArray, List.set_cons_zero, List.set_cons_succ]
              (refine regf_take 10 (v := ?_) (by rfl) (by kernel_rfl) (by kernel_rfl) (by kernel_rfl) (by exact fun _ _ _ h => h) (by rfl) ?_ ?_; rotate_left; focus (intro w hSw; go_simp; try with_reducible rfl))
              simp only [Act.put, List.setIfInBounds_toArray, List.set_cons_zero, List.set_cons_succ]
              (refine regf_take 11 (v := ?_) (by rfl) (by kernel_rfl) (by kernel_rfl) (by kernel_rfl) (by exact fun _ _ _ h => h) (by rfl) ?_ ?_; rotate_left; focus (intro w hSw; go_simp; try with_reducible rfl))
              simp only [Act.put, List.setIfInBounds_toArray, List.set_cons_zero, List.set_cons_succ]
              (refine regf_take 12 (v := ?_) (by rfl) (by kernel_rfl) (by kernel_rfl) (by kernel_rfl) (by exact fun _ _ _ h => h) (by rfl) ?_ ?_; rotate_left; focus (intro w hSw; go_simp; try with_reducible rfl))
              simp only [Act.put, List.setIfInBounds_toArray, List.set_cons_zero, List.set_cons_succ]
              (refine regf_take 13 (v := ?_) (by rfl) (by kernel_rfl) (by kernel_rfl) (by kernel_rfl) (by exact fun _ _ _ h => h) (by rfl) ?_ ?_; rotate_left; focus (intro w hSw; go_simp; try with_reducible rfl))
              simp only [Act.put, List.setIfInBounds_toArray, List.set_cons_zero, List.set_cons_succ]
              (refine regf_take 14 (v := ?_) (by rfl) (by kernel_rfl) (by kernel_rfl) (by kernel_rfl) (by exact fun _ _ _ h => h) (by rfl) ?_ ?_; rotate_left; focus (intro w hSw; go_simp; try with_reducible rfl))
              simp only [Act.put, List.setIfInBounds_toArray, List.set_cons_zero, List.set_cons_succ]
              (refine regf_take 15 (v := ?_) (by rfl) (by kernel_rfl) (by kernel_rfl) (by kernel_rfl) (by exact fun _ _ _ h => h) (by rfl) ?_ ?_; rotate_left; focus (intro w hSw; go_simp; try with_reducible rfl))
              simp only [Act.put, List.setIfInBounds_toArray, List.set_cons_zero, List.set_cons_succ]
              (refine regf_take 16 (v := ?_) (by rfl) (by kernel_rfl) (by kernel_rfl) (by kernel_rfl) (by exact fun _ _ _ h => h) (by rfl) ?_ ?_; rotate_left; focus (intro w hSw; go_simp; try with_reducible rfl))
              simp only [Act.put, List.setIfInBounds_toArray, List.set_cons_zero, List.set_cons_succ]
              (refine regf_take 17 (v := ?_) (by rfl) (by kernel_rfl) (by kernel_rfl) (by kernel_rfl) (by exact fun _ _ _ h => h) (by rfl) ?_ ?_; rotate_left; focus (intro w hSw; go_simp; try with_reducible rfl))
              simp only [Act.put, List.setIfInBounds_toArray, List.set_cons_zero, List.set_cons_succ]
              (refine regf_take 18 (v := ?_) (by rfl) (by kernel_rfl) (by kernel_rfl) (by kernel_rfl) (by exact fun _ _ _ h => h) (by rfl) ?_ ?_; rotate_left; focus (intro w hSw; go_simp; try with_reducible rfl))
              simp only [Act.put, List.setIfInBounds_toArray, List.set_cons_zero, List.set_cons_succ]
              (refine regf_take 19 (v := ?_) (by rfl) (by kernel_rfl) (by kernel_rfl) (by kernel_rfl) (by exact fun _ _ _ h => h) (by rfl) ?_ ?_; rotate_left; focus (intro w hSw; go_simp; try with_reducible rfl))
              simp only [Act.put, List.setIfInBounds_toArray, List.set_cons_zero, List.set_cons_succ]
              (refine regf_take 20 (v := ?_) (by rfl) (by kernel_rfl) (by kernel_rfl) (by kernel_rfl) (by exact fun _ _ _ h => h) (by rfl) ?_ ?_; rotate_left; focus (intro w hSw; go_simp; try with_reducible rfl))
              simp only [Act.put, List.setIfInBounds_toArray, List.set_cons_zero, List.set_cons_succ]
              (refine regf_take 21 (v := ?_) (by rfl) (by kernel_rfl) (by kernel_rfl) (by kernel_rfl) (by exact fun _ _ _ h => h) (by rfl) ?_ ?_; rotate_left; focus (intro w hSw; go_simp; try with_reducible rfl))
              simp only [Act.put, List.setIfInBounds_toArray, List.set_cons_zero, List.set_cons_succ]
              (refine regf_take 22 (v := ?_) (by rfl) (by kernel_rfl) (by kernel_rfl) (by kernel_rfl) (by exact fun _ _ _ h => h) (by rfl) ?_ ?_; rotate_left; focus (intro w hSw; go_simp; try with_reducible rfl))
              simp only [Act.put, List.setIfInBounds_toArray, List.set_cons_zero, List.set_cons_succ]
              (refine regf_take 23 (v := ?_) (by rfl) (by kernel_rfl) (by kernel_rfl) (by kernel_rfl) (by exact fun _ _ _ h => h) (by rfl) ?_ ?_; rotate_left; focus (intro w hSw; go_simp; try with_reducible rfl))
              simp only [Act.put, List.setIfInBounds_toArray, List.set_cons_zero, List.set_cons_succ]
              (refine regf_take 24 (v := ?_) (by rfl) (by kernel_rfl) (by kernel_rfl) (by kernel_rfl) (by exact fun _ _ _ h => h) (by rfl) ?_ ?_; rotate_left; focus (intro w hSw; go_simp; try with_reducible rfl))
              simp only [Act.put, List.setIfInBounds_toArray, List.set_cons_zero, List.set_cons_succ]
              (refine regf_take 25 (v := ?_) (by rfl) (by kernel_rfl) (by kernel_rfl) (by kernel_rfl) (by exact fun _ _ _ h => h) (by rfl) ?_ ?_; rotate_left; focus (intro w hSw; go_simp; try with_reducible rfl))
              simp only [Act.put, List.setIfInBounds_toArray, List.set_cons_zero, List.set_cons_succ]
              (refine regf_take 26 (v := ?_) (by rfl) (by kernel_rfl) (by kernel_rfl) (by kernel_rfl) (by exact fun _ _ _ h => h) (by rfl) ?_ ?_; rotate_left; focus (intro w hSw; go_simp; try with_reducible rfl))
              simp only [Act.put, List.setIfInBounds_toArray, List.set_cons_zero, List.set_cons_succ]
              refine regf_two 1 27 (by kernel_rfl) (by rfl) (by rfl) (fun K hK => ?_) (fun K hK => ?_)
              focus
                go_simp
                refine hK.out _ _ ((Fr.of_below (Below.refl _ _))) ?_
                clear hK K
                try simp only [Act.put, List.setIfInBounds_toArray, List.set_cons_zero, List.set_cons_succ]
                refine regf_call 27 (by kernel_rfl) (by rfl) (fun K hK => ?_)
                go_simp
                go_at_call 34; refine (valuesOf8_any (l := x.values) (goesArrV.after HAV.out (by repeat (first | exact Below.refl _ _ | assumption | refine Below.drew ?_ | refine below_drewN ?_ _ | refine Below.alloc ?_ (by first | (simp; done) | omega | (simp; omega)) _ | refine Below.setCell ?_ (by first | (simp; done) | omega | (simp; omega)) _))) hnv2).mono ?_; rintro e w6 ⟨A6', n6', c6', rfl, ha6', hb6⟩; obtain ⟨ρ6, hr6⟩ : ∃ q, q = xt ρ wr.drew.heap.size 5 := ⟨_, rfl⟩; have hf6 : Fr (Rl ρ 9) wr.drew w6 := Fr.of_below hb6; have HK6 := Lib.hid ((((HK.out.after hdr).deepA goesStmRf hdr).stepx hf6 hr6).deepx goesStmRf hf6 hr6); have HS6 : Hid (stmRf (Rl ρ6 5) w6 x [.bool x.prepared, .string (str x.text), .string (str x.ident), .slice A6' n6' c6']) := Lib.hid ⟨A6', n6', c6', rfl, hxt, hxi, goesArr.mono ha6' (fun b' hb _ => by show ρ6 b' = 5; rw [hr6]; exact xt_ge hb)⟩; have HR6 : Hid (∀ b', b' < w11.heap.size → ρ6 b' = if b' = Q then 8 else 0) := Lib.hid (fun b' hb => by rw [hr6, xt_lt (show b' < wr.drew.heap.size from (show b' < wr.heap.size by omega))]; exact HRO.out b' hb); have HT6 : Hid (∀ N b', b' < N → Rl ρ6 4 b' → T b') := Lib.hid (fun N b' _ e => (HT.out b').2 (.inr (by have e : ρ6 b' = 4 := e; rw [hr6] at e; by_cases hb : b' < wr.drew.heap.size; rw [xt_lt hb] at e; exact e; rw [xt_ge (by omega)] at e; omega))); have HX6 := Lib.hid (goesBx.after (goesBx.after HX.out hdr) hb6); have hb06 : Below wr.heap.size wr w6 := hdr.trans hb6; have hz06 := hb06.size; have q6 := HX6.out.c 21 _ rfl; have hq6 := HX6.out.lt
                refine hK.out _ _ ((Fr.of_below hb6)) ?_
                clear hK K
                try simp only [Act.put, List.setIfInBounds_toArray, List.set_cons_zero, List.set_cons_succ]
                (refine regf_take 28 (v := ?_) (by rfl) (by kernel_rfl) (by kernel_rfl) (by kernel_rfl) (by exact fun _ _ _ h => h) (by rfl) ?_ ?_; rotate_left; focus (intro w hSw; go_simp; try with_reducible rfl))
                simp only [Act.put, List.setIfInBounds_toArray, List.set_cons_zero, List.set_cons_succ]
                refine regf_call 29 (by kernel_rfl) (by rfl) (fun K hK => ?_)
                go_simp
                refine hK.out _ _ ((by exact Fr.of_below (by repeat (first | exact Below.refl _ _ | exact below_undrew (Below.refl _ _) | assumption | refine Below.drew ?_ | refine below_drewN ?_ _ | refine Below.alloc ?_ (by simp) _ | refine Below.setCell ?_ (by simp) _)))) ?_
                clear hK K
                try simp only [Act.put, List.setIfInBounds_toArray, List.set_cons_zero, List.set_cons_succ]
                refine regf_call 30 (by kernel_rfl) (by rfl) (fun K hK => ?_)
                refine step_appX rfl tyS8 _ _ rfl (ρ := ρ6) (r := 4) _ _ _ (all.take k) rfl (HK6.out.after (by repeat (first | exact Below.refl _ _ | assumption | refine Below.drew ?_ | refine below_drewN ?_ _ | refine Below.alloc ?_ (by first | (simp; done) | omega | (simp; omega)) _ | refine Below.setCell ?_ (by first | (simp; done) | omega | (simp; omega)) _))) _ _ _ _ [x] rfl (arr_lit (P := stmRf (Rl ρ6 5) w6) _ #[.bool x.prepared, .string (str x.text), .string (str x.ident), .slice A6' n6' c6'] x rfl HS6.out (by first | rfl | simp)) (fun _ _ h => stmRf_one _ _ h) (fun _ _ _ h => h) (by omega) (by unfold maxLen; omega) ?_; intro A5 m5 c5 w5' ρ5 hx5 hown5 hf5; have hXq : Bx (fun b => b = Q) w5' Q (rfV ⟨op, [], tx, idn, run, [], tok, kd, []⟩ ⟨Aw10, mw10, cw10⟩ ⟨A6, n6, c6⟩ ⟨A4, n4, c4⟩ ⟨Aw11, mw11, cw11⟩ ⟨A, m, c⟩) := goesBx.keep (goesBx.after HX6.out (by repeat (first | exact Below.refl _ _ | assumption | refine Below.drew ?_ | refine below_drewN ?_ _ | refine Below.alloc ?_ (by first | (simp; done) | omega | (simp; omega)) _ | refine Below.setCell ?_ (by first | (simp; done) | omega | (simp; omega)) _))) hf5.size (fun b' hb hlt => hf5.block b' hlt (by subst hb; show ¬ ρ6 b' = 4; rw [HR6.out b' (by omega), if_pos rfl]; decide)); have p1 := hXq.c 21 _ rfl; have z1 := hXq.fr 21
                refine hK.out _ _ ((hf5.imp (HT6.out _))) ?_
                clear hK K
                try simp only [Act.put, List.setIfInBounds_toArray, List.set_cons_zero, List.set_cons_succ]
                (refine regf_take 31 (v := ?_) (by rfl) (by kernel_rfl) (by kernel_rfl) (by kernel_rfl) (by exact fun _ _ _ h => h) (by rfl) ?_ ?_; rotate_left; focus (intro w hSw; go_simp; try with_reducible rfl))
                simp only [Act.put, List.setIfInBounds_toArray, List.set_cons_zero, List.set_cons_succ]
                refine regf_call 32 (by kernel_rfl) (by rfl) (fun K hK => ?_)
                go_simp
                refine hK.out _ _ ((Fr.set _ (X := Q) HTQ.out _)) ?_
                clear hK K
                try simp only [Act.put, List.setIfInBounds_toArray, List.set_cons_zero, List.set_cons_succ]
                refine wpAnyH_done (by kernel_rfl) ?_ _
              rotate_left 1
              focus
                go_simp
                go_at_call 34; refine (valuesOf8_any (l := x.values) (goesArrV.after HAV.out (by repeat (first | exact Below.refl _ _ | assumption | refine Below.drew ?_ | refine below_drewN ?_ _ | refine Below.alloc ?_ (by first | (simp; done) | omega | (simp; omega)) _ | refine Below.setCell ?_ (by first | (simp; done) | omega | (simp; omega)) _))) hnv2).mono ?_; rintro e w6 ⟨A6', n6', c6', rfl, ha6', hb6⟩; obtain ⟨ρ6, hr6⟩ : ∃ q, q = xt ρ wr.drew.heap.size 5 := ⟨_, rfl⟩; have hf6 : Fr (Rl ρ 9) wr.drew w6 := Fr.of_below hb6; have HK6 := Lib.hid ((((HK.out.after hdr).deepA goesStmRf hdr).stepx hf6 hr6).deepx goesStmRf hf6 hr6); have HS6 : Hid (stmRf (Rl ρ6 5) w6 x [.bool x.prepared, .string (str x.text), .string (str x.ident), .slice A6' n6' c6']) := Lib.hid ⟨A6', n6', c6', rfl, hxt, hxi, goesArr.mono ha6' (fun b' hb _ => by show ρ6 b' = 5; rw [hr6]; exact xt_ge hb)⟩; have HR6 : Hid (∀ b', b' < w11.heap.size → ρ6 b' = if b' = Q then 8 else 0) := Lib.hid (fun b' hb => by rw [hr6, xt_lt (show b' < wr.drew.heap.size from (show b' < wr.heap.size by omega))]; exact HRO.out b' hb); have HT6 : Hid (∀ N b', b' < N → Rl ρ6 4 b' → T b') := Lib.hid (fun N b' _ e => (HT.out b').2 (.inr (by have e : ρ6 b' = 4 := e; rw [hr6] at e; by_cases hb : b' < wr.drew.heap.size; rw [xt_lt hb] at e; exact e; rw [xt_ge (by omega)] at e; omega))); have HX6 := Lib.hid (goesBx.after (goesBx.after HX.out hdr) hb6); have hb06 : Below wr.heap.size wr w6 := hdr.trans hb6; have hz06 := hb06.size; have q6 := HX6.out.c 21 _ rfl; have hq6 := HX6.out.lt
                refine hK.out _ _ ((Fr.of_below hb6)) ?_
                clear hK K
                try simp only [Act.put, List.setIfInBounds_toArray, List.set_cons_zero, List.set_cons_succ]
                (refine regf_take 28 (v := ?_) (by rfl) (by kernel_rfl) (by kernel_rfl) (by kernel_rfl) (by exact fun _ _ _ h => h) (by rfl) ?_ ?_; rotate_left; focus (intro w hSw; go_simp; try with_reducible rfl))
                simp only [Act.put, List.setIfInBounds_toArray, List.set_cons_zero, List.set_cons_succ]
                refine regf_two 1 29 (by kernel_rfl) (by rfl) (by rfl) (fun K hK => ?_) (fun K hK => ?_)
                focus
                  go_simp
                  refine hK.out _ _ ((Fr.of_below (Below.refl _ _))) ?_
                  clear hK K
                  try simp only [Act.put, List.setIfInBounds_toArray, List.set_cons_zero, List.set_cons_succ]
                  refine regf_call 29 (by kernel_rfl) (by rfl) (fun K hK => ?_)
                  go_simp
                  refine hK.out _ _ ((by exact Fr.of_below (by repeat (first | exact Below.refl _ _ | exact below_undrew (Below.refl _ _) | assumption | refine Below.drew ?_ | refine below_drewN ?_ _ | refine Below.alloc ?_ (by simp) _ | refine Below.setCell ?_ (by simp) _)))) ?_
                  clear hK K
                  try simp only [Act.put, List.setIfInBounds_toArray, List.set_cons_zero, List.set_cons_succ]
                  refine regf_call 30 (by kernel_rfl) (by rfl) (fun K hK => ?_)
                  refine step_appX rfl tyS8 _ _ rfl (ρ := ρ6) (r := 4) _ _ _ (all.take k) rfl (HK6.out.after (by repeat (first | exact Below.refl _ _ | assumption | refine Below.drew ?_ | refine below_drewN ?_ _ | refine Below.alloc ?_ (by first | (simp; done) | omega | (simp; omega)) _ | refine Below.setCell ?_ (by first | (simp; done) | omega | (simp; omega)) _))) _ _ _ _ [x] rfl (arr_lit (P := stmRf (Rl ρ6 5) w6) _ #[.bool x.prepared, .string (str x.text), .string (str x.ident), .slice A6' n6' c6'] x rfl HS6.out (by first | rfl | simp)) (fun _ _ h => stmRf_one _ _ h) (fun _ _ _ h => h) (by omega) (by unfold maxLen; omega) ?_; intro A5 m5 c5 w5' ρ5 hx5 hown5 hf5; have hXq : Bx (fun b => b = Q) w5' Q (rfV ⟨op, [], tx, idn, run, [], tok, kd, []⟩ ⟨Aw10, mw10, cw10⟩ ⟨A6, n6, c6⟩ ⟨A4, n4, c4⟩ ⟨Aw11, mw11, cw11⟩ ⟨A, m, c⟩) := goesBx.keep (goesBx.after HX6.out (by repeat (first | exact Below.refl _ _ | assumption | refine Below.drew ?_ | refine below_drewN ?_ _ | refine Below.alloc ?_ (by first | (simp; done) | omega | (simp; omega)) _ | refine Below.setCell ?_ (by first | (simp; done) | omega | (simp; omega)) _))) hf5.size (fun b' hb hlt => hf5.block b' hlt (by subst hb; show ¬ ρ6 b' = 4; rw [HR6.out b' (by omega), if_pos rfl]; decide)); have p1 := hXq.c 21 _ rfl; have z1 := hXq.fr 21
                  refine hK.out _ _ ((hf5.imp (HT6.out _))) ?_
                  clear hK K
                  try simp only [Act.put, List.setIfInBounds_toArray, List.set_cons_zero, List.set_cons_succ]
                  (refine regf_take 31 (v := ?_) (by rfl) (by kernel_rfl) (by kernel_rfl) (by kernel_rfl) (by exact fun _ _ _ h => h) (by rfl) ?_ ?_; rotate_left; focus (intro w hSw; go_simp; try with_reducible rfl))
                  simp only [Act.put, List.setIfInBounds_toArray, List.set_cons_zero, List.set_cons_succ]
                  refine regf_call 32 (by kernel_rfl) (by rfl) (fun K hK => ?_)
                  go_simp
                  refine hK.out _ _ ((Fr.set _ (X := Q) HTQ.out _)) ?_
                  clear hK K
                  try simp only [Act.put, List.setIfInBounds_toArray, List.set_cons_zero, List.set_cons_succ]
                  refine wpAnyH_done (by kernel_rfl) ?_ _
                rotate_left 1
                focus
                  go_simp
                  refine hK.out _ _ ((by exact Fr.of_below (by repeat (first | exact Below.refl _ _ | exact below_undrew (Below.refl _ _) | assumption | refine Below.drew ?_ | refine below_drewN ?_ _ | refine Below.alloc ?_ (by simp) _ | refine Below.setCell ?_ (by simp) _)))) ?_
                  clear hK K
                  try simp only [Act.put, List.setIfInBounds_toArray, List.set_cons_zero, List.set_cons_succ]
                  refine regf_call 1 (by kernel_rfl) (by rfl) (fun K hK => ?_)
                  go_simp
                  refine hK.out _ _ ((Fr.of_below (Below.refl _ _))) ?_
                  clear hK K
                  try simp only [Act.put, List.setIfInBounds_toArray, List.set_cons_zero, List.set_cons_succ]
                  refine regf_call 30 (by kernel_rfl) (by rfl) (fun K hK => ?_)
                  refine step_appX rfl tyS8 _ _ rfl (ρ := ρ6) (r := 4) _ _ _ (all.take k) rfl (HK6.out.after (by repeat (first | exact Below.refl _ _ | assumption | refine Below.drew ?_ | refine below_drewN ?_ _ | refine Below.alloc ?_ (by first | (simp; done) | omega | (simp; omega)) _ | refine Below.setCell ?_ (by first | (simp; done) | omega | (simp; omega)) _))) _ _ _ _ [x] rfl (arr_lit (P := stmRf (Rl ρ6 5) w6) _ #[.bool x.prepared, .string (str x.text), .string (str x.ident), .slice A6' n6' c6'] x rfl HS6.out (by first | rfl | simp)) (fun _ _ h => stmRf_one _ _ h) (fun _ _ _ h => h) (by omega) (by unfold maxLen; omega) ?_; intro A5 m5 c5 w5' ρ5 hx5 hown5 hf5; have hXq : Bx (fun b => b = Q) w5' Q (rfV ⟨op, [], tx, idn, run, [], tok, kd, []⟩ ⟨Aw10, mw10, cw10⟩ ⟨A6, n6, c6⟩ ⟨A4, n4, c4⟩ ⟨Aw11, mw11, cw11⟩ ⟨A, m, c⟩) := goesBx.keep (goesBx.after HX6.out (by repeat (first | exact Below.refl _ _ | assumption | refine Below.drew ?_ | refine below_drewN ?_ _ | refine Below.alloc ?_ (by first | (simp; done) | omega | (simp; omega)) _ | refine Below.setCell ?_ (by first | (simp; done) | omega | (simp; omega)) _))) hf5.size (fun b' hb hlt => hf5.block b' hlt (by subst hb; show ¬ ρ6 b' = 4; rw [HR6.out b' (by omega), if_pos rfl]; decide)); have p1 := hXq.c 21 _ rfl; have z1 := hXq.fr 21
                  refine hK.out _ _ ((hf5.imp (HT6.out _))) ?_
                  clear hK K
                  try simp only [Act.put, List.setIfInBounds_toArray, List.set_cons_zero, List.set_cons_succ]
                  (refine regf_take 31 (v := ?_) (by rfl) (by kernel_rfl) (by kernel_rfl) (by kernel_rfl) (by exact fun _ _ _ h => h) (by rfl) ?_ ?_; rotate_left; focus (intro w hSw; go_simp; try with_reducible rfl))
                  simp only [Act.put, List.setIfInBounds_toArray, List.set_cons_zero, List.set_cons_succ]
                  refine regf_call 32 (by kernel_rfl) (by rfl) (fun K hK => ?_)
                  go_simp
                  refine hK.out _ _ ((Fr.set _ (X := Q) HTQ.out _)) ?_
                  clear hK K
                  try simp only [Act.put, List.setIfInBounds_toArray, List.set_cons_zero, List.set_cons_succ]
                  refine wpAnyH_done (by kernel_rfl) ?_ _
              all_goals
                clear q1 q6 p1 z1
                have hba : Below w6.heap.size w6 (w6.alloc _) := (Below.refl _ _).alloc (Nat.le_refl _) (.cells #[.bool x.prepared, .string (str x.text), .string (str x.ident), .slice A6' n6' c6'] 81)
                have HK5 := Lib.hid (((hown5.deepA goesStmRf hba).deepx goesStmRf hf5 hx5).as HTK.out.symm)
                have HR5 : Hid (∀ b', b' < w11.heap.size → ρ5 b' = if b' = Q then 8 else 0) := Lib.hid (fun b' hb => by rw [hx5, xt_lt (Nat.lt_of_lt_of_le (show b' < w6.heap.size by omega) hba.size)]; exact HR6.out b' hb)
                have HF5 : Hid (Fr (fun b => b = Q) w11 w5') := Lib.hid (((HF.out.trans (Fr.of_below hb06)).trans (Fr.of_below hba)).seq hf5 (fun x' hx' h => by have h : ρ6 x' = 4 := h; rw [HR6.out x' hx'] at h; exfalso; split at h <;> omega))
                have HXq := Lib.hid hXq
                clear hown5 hf5 hx5 hXq hba f1 e0 e1 e2 e3 hcI
                go_wp2_with fail
                have hset : Fr (Rl ρ5 8) w5' (w5'.setCell ⟨Q, 21, none⟩ (.slice A5 m5 c5)) := Fr.set w5' (X := Q) (show Rl ρ5 8 Q from by show ρ5 Q = 8; rw [HR5.out Q (by omega), if_pos rfl]) _
                have hset2 : Fr (fun b => b = Q) w5' (w5'.setCell ⟨Q, 21, none⟩ (.slice A5 m5 c5)) := Fr.set (S := fun b => b = Q) w5' (X := Q) rfl _
                refine ⟨⟨ρ5, k + 1, A5, m5, c5, by omega, by go_num, HR5, Lib.hid (HF5.out.trans hset2), Lib.hid ((HK5.out.stay hset).deepS goesStmRf hset), Lib.hid (HXq.out.put 21 (.slice A5 m5 c5) (by show 21 < 22; decide))⟩, by simp [intOf]; omega⟩
            · obtain rfl : an = k := by omega
              have hfull : all.take an = all := List.take_of_length_le (by have := HAL.out; omega)
              rw [hfull] at HK
              clear hfull
              have HFa : Hid (Fr (fun b => b = Q) w9 wr) := Lib.hid ((HFw10.out.trans HFw11.out).trans HF.out)
              have HBZr : Hid (Bx (fun b => b = w.heap.size + 1) wr (w.heap.size + 1) zeroR) := Lib.hid (goesBx.keep HBZ9.out HFa.out.size fun b hb hlt => HFa.out.block b hlt (by rw [hb]; exact HX9'.out))
              go_wp2_with (first | (refine wpList_loadB HX.out (by rfl) 48 _ (by rfl) (by rfl) _ Try.underlying48 rfl (by kernel_rfl) ?_) | (refine wpList_storeB HBZr.out (by rfl) 48 _ _ (by rfl) 0 (rfV ⟨op, [], tx, idn, run, [], tok, kd, []⟩ ⟨Aw10, mw10, cw10⟩ ⟨A6, n6, c6⟩ ⟨A4, n4, c4⟩ ⟨Aw11, mw11, cw11⟩ ⟨A, m, c⟩) (by rfl) (by rfl) (by kernel_rfl) (by show 0 + 22 ≤ 22; decide) (by rfl) ?_; intro wz hbz hgz; have HBz : Hid (Bx (fun b => b = w.heap.size + 1) wz (w.heap.size + 1) (rfV ⟨op, [], tx, idn, run, [], tok, kd, []⟩ ⟨Aw10, mw10, cw10⟩ ⟨A6, n6, c6⟩ ⟨A4, n4, c4⟩ ⟨Aw11, mw11, cw11⟩ ⟨A, m, c⟩)) := Lib.hid hbz; have HGz := Lib.hid hgz; clear hbz hgz))
              refine bodyPost_ret (results_box1 (vs := (rfV ⟨op, [], tx, idn, run, [], tok, kd, []⟩ ⟨Aw10, mw10, cw10⟩ ⟨A6, n6, c6⟩ ⟨A4, n4, c4⟩ ⟨Aw11, mw11, cw11⟩ ⟨A, m, c⟩)) rfl HBz.out (by rfl) _ Try.underlying48 rfl (by kernel_rfl)) rfl ?_
              have HZ : Fr (fun b => b = w.heap.size + 1) wr wz := Fr.of_one HGz.out rfl
              have hzz := HZ.size
              have hwz : w.heap.size ≤ wz.heap.size := by omega
              have hit : ∀ (y : Thing) (u : List Value), itemP (fun _ => False) w y u → itemP (fun b => w.heap.size ≤ b) wz y u := fun y u hp => (goesItem y u).mono ((goesItem y u).keep hp hwz fun b hb => hb.elim) fun b hb _ => hb.elim
              refine ⟨⟨Aw10, mw10, cw10⟩, ⟨A6, n6, c6⟩, ⟨A4, n4, c4⟩, ⟨Aw11, mw11, cw11⟩, ⟨A, m, c⟩, rfl, ⟨?_, ?_, ?_, ?_⟩, ?_⟩
              · refine Arr.imp (goesArr.mono (goesArr.keep (goesArr.keep (goesArr.mono (HOw10.out.arr (by decide)) (S' := fun b => w9.heap.size ≤ b) fun b hb _ => hb.1) (HFw11.out.trans HF.out).size fun b hb hlt => (HFw11.out.trans HF.out).block b hlt (by show b ≠ Q; have : w9.heap.size ≤ b := hb; have := HX9.out.lt; omega)) hzz fun b hb hlt => HZ.block b hlt (by show b ≠ w.heap.size + 1; have : w9.heap.size ≤ b := hb; omega)) fun b hb _ => by have : w9.heap.size ≤ b := hb; show w.heap.size ≤ b; omega) fun y _ u hp => hit y u hp
              · exact goesRunR.mono (goesRunR.keep (goesRunR.keep HRU.out HFa.out.size fun b hb hlt => HFa.out.block b hlt hb.2) hzz fun b hb hlt => HZ.block b hlt (by show b ≠ w.heap.size + 1; have := hb.1; omega)) fun b hb _ => by have := hb.1; show w.heap.size ≤ b; omega
              · refine Arr.imp (goesArr.mono (goesArr.keep (goesArr.keep (goesArr.mono (HOw11.out.arr (by decide)) (S' := fun b => w10.heap.size ≤ b) fun b hb _ => hb.1) HF.out.size fun b hb hlt => HF.out.block b hlt (by show b ≠ Q; have : w10.heap.size ≤ b := hb; have := HXw10.out.lt; omega)) hzz fun b hb hlt => HZ.block b hlt (by show b ≠ w.heap.size + 1; have : w10.heap.size ≤ b := hb; omega)) fun b hb _ => by have : w10.heap.size ≤ b := hb; show w.heap.size ≤ b; omega) fun y _ u hp => hit y u hp
              · have hro : ∀ b r, b < wr.heap.size → ρ b = r → (r = 4 ∨ r = 5) → w11.heap.size ≤ b := fun b r _ e hr => by
                  rcases Nat.lt_or_ge b w11.heap.size with h | h
                  · rw [HRO.out b h] at e; split at e <;> omega
                  · exact h
                have ha := (goesArr.mono (HK.out.arr (by decide)) (S' := fun b => w11.heap.size ≤ b) fun b hb hlt => hro b 4 hlt hb (.inl rfl)).imp (P' := stmRf (fun b => w11.heap.size ≤ b) wr) fun y _ u hp => (goesStmRf y u).mono hp fun b hb hlt => hro b 5 hlt hb (.inr rfl)
                exact goesArrF.mono (goesArrF.keep ha hzz fun b hb hlt => HZ.block b hlt (by show b ≠ w.heap.size + 1; have : w11.heap.size ≤ b := hb; omega)) fun b hb _ => by have : w11.heap.size ≤ b := hb; show w.heap.size ≤ b; omega
              · exact ((HBL9.out.trans (HFa.out.below (N := w.heap.size) HBL9.out.size fun b hb e => by omega)).trans (HZ.below (N := w.heap.size) (by omega) fun b hb e => by omega))
end Go.Proofs.Sb
