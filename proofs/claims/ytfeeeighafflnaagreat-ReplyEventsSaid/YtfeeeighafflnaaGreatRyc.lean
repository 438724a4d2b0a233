/- The reference of layer 9: its reply in cells; walks over signalboxref09.among, faultParts, first, then. Conditions: none. (written by gen_ryc.py) -/
import Derived.Test.YtfeeeighafflnaaGreatSua
import Derived.Test.YtfeeeighafflnaaGreatStk
import Derived.Test.YtfeeeighafflnaaGreatPlaind
import Derived.Test.YtfeeeighafflnaaGreatArr
import Derived.Deep.CutBlock
import Derived.Deep.DeepCutAuto
set_option linter.unusedVariables false
set_option linter.unusedSimpArgs false
namespace Sb
/-- words between blanks -/
def splitW : B → List B
  | [] => [[]]
  | c :: r => if c = 32 then [] :: splitW r else match splitW r with | [] => [[c]] | x :: xs => (c :: x) :: xs
theorem split_head : ∀ {L : B} {k : Nat}, (∀ j, j < k → L[j]? ≠ some 32) → (k = L.length ∨ L[k]? = some 32) → k ≤ L.length → splitW L = L.take k :: (if k = L.length then [] else splitW (L.drop (k + 1)))
  | [], k, h, hk, hl => by
    obtain rfl : k = 0 := by simpa using hl
    rfl
  | c :: r, 0, h, hk, hl => by
    have hc : c = 32 := by rcases hk with hk | hk; cases hk; simpa using hk
    subst hc
    rfl
  | c :: r, k + 1, h, hk, hl => by
    have hc : c ≠ 32 := fun e => h 0 (by omega) (by rw [e]; rfl)
    have ih := split_head (L := r) (k := k) (fun j hj => by have := h (j + 1) (by omega); simpa using this) (hk.imp (fun e => by simpa using e) (fun e => by simpa using e)) (by simpa using hl)
    have e : splitW (c :: r) = if c = 32 then [] :: splitW r else match splitW r with | [] => [[c]] | x :: xs => (c :: x) :: xs := rfl
    rw [e, if_neg hc, ih]
    simp
theorem split_mem {L s : B} {k : Nat} (h : ∀ j, j < k → L[j]? ≠ some 32) (hk : k = L.length ∨ L[k]? = some 32) (hl : k ≤ L.length) : s ∈ splitW L ↔ L.take k = s ∨ s ∈ (if k = L.length then [] else splitW (L.drop (k + 1))) := by
  rw [split_head h hk hl, List.mem_cons]
  exact or_congr ⟨fun e => e.symm, fun e => e.symm⟩ Iff.rfl
def restW (W : B) (a : Nat) : List B := if a ≤ W.length then splitW (W.drop a) else []
theorem rest_step {W s : B} {a k : Nat} (ha : a ≤ k) (hk : k ≤ W.length) (h : ∀ j, a ≤ j → j < k → W[j]? ≠ some 32) (he : k = W.length ∨ W[k]? = some 32) : s ∈ restW W a ↔ (W.drop a).take (k - a) = s ∨ s ∈ restW W (k + 1) := by
  unfold restW
  rw [if_pos (by omega : a ≤ W.length), split_mem (k := k - a) (fun j hj => by rw [List.getElem?_drop]; exact h (a + j) (by omega) (by omega)) (by rw [List.length_drop, List.getElem?_drop, show a + (k - a) = k by omega]; rcases he with he | he; left; omega; exact .inr he) (by rw [List.length_drop]; omega)]
  rw [List.length_drop, List.drop_drop, show a + (k - a + 1) = k + 1 by omega]
  by_cases e : k = W.length
  · rw [if_pos (by omega), if_neg (by omega)]
  · rw [if_neg (by omega), if_pos (by omega)]
theorem sp_F : splitW [70, 85, 78, 67, 84, 73, 79, 78, 32, 65, 71, 71, 82, 69, 71, 65, 84, 69] = wdsF := by decide
theorem sp_U : splitW [85, 80, 32, 68, 79, 87, 78] = wdsU := by decide
theorem sp_N : splitW [78, 69, 87, 95, 78, 79, 68, 69, 32, 82, 69, 77, 79, 86, 69, 68, 95, 78, 79, 68, 69, 32, 77, 79, 86, 69, 68, 95, 78, 79, 68, 69] = wdsN := by decide
theorem sp_W : splitW [67, 82, 69, 65, 84, 69, 68, 32, 85, 80, 68, 65, 84, 69, 68, 32, 68, 82, 79, 80, 80, 69, 68] = wdsW := by decide
theorem sp_T : splitW [75, 69, 89, 83, 80, 65, 67, 69, 32, 84, 65, 66, 76, 69, 32, 84, 89, 80, 69, 32, 70, 85, 78, 67, 84, 73, 79, 78, 32, 65, 71, 71, 82, 69, 71, 65, 84, 69] = wdsT := by decide
end Sb
namespace Go.Proofs.Sb
open Go.RowKit _root_.Sb
theorem str_extract (W : B) (a b : Nat) : (str W).extract a b = str ((W.drop a).take (b - a)) := by
  apply ByteArray.ext
  rw [ByteArray.data_extract]
  simp [str, List.extract_toArray, List.extract]
theorem run_sub (W : B) (f i : Nat) (h : f ≤ i) (h2 : i ≤ W.length) (w : World) : (Instr.slice 9 (.string (str W)) (some (.int .i64 (f : Int))) (some (.int .i64 (i : Int))) none).run Tryz.prog w = .ok (.string (str ((W.drop f).take (i - f)))) w := by
  rw [run_slice_string w 9 (str W) .i64 .i64 f i Tryz.underlying9 (by omega) (by omega) (by rw [str_size]; omega), str_extract]
  rfl
theorem run_idx (W : B) (i : Nat) (c : UInt8) (h : W[i]? = some c) (w : World) : (Instr.index 9 (.string (str W)) (.int .i64 (i : Int))).run Tryz.prog w = .ok (.int .u8 (c.toNat : Int)) w := by
  have hi : i < W.length := (List.getElem?_eq_some_iff.1 h).1
  have hc : W[i] = c := (List.getElem?_eq_some_iff.1 h).2
  rw [run_index_string w 9 (str W) .i64 i Tryz.underlying9, dif_pos (by rw [str_size]; omega)]
  have e : (str W)[(i : Int).toNat]'(by rw [str_size]; omega) = c := by rw [← hc]; simp [str]; rfl
  rw [e]
theorem goesItem (x : Thing) (c : List Value) : Goes fun S w => itemP S w x c :=
  ⟨fun h hs hk => h.imp fun _ _ _ _ h => goesArr.keep h hs hk, fun h hS => h.imp fun _ _ _ _ h => goesArr.mono h hS⟩
theorem goesArrI {A : Option Addr} {n c : Nat} {l : List Thing} : Goes fun S w => Arr 5 (itemP S w) S w A n c l :=
  ⟨fun h hs hk => (goesArr.keep h hs hk).imp fun x _ v hp => (goesItem x v).keep hp hs hk, fun h hS => (goesArr.mono h hS).imp fun x _ v hp => (goesItem x v).mono hp hS⟩
theorem results_box1 {P : Program} {w : World} {S : Nat → Prop} {fn : Func} {p : Tmp} {ty : TypeId} (h : fn.results = #[.cell p ty]) {X : Nat} {vs : List Value} (hB : Bx S w X vs) {tmps : Array Value} (hp : tmps.getD p undef = .pointer (some ⟨X, 0, none⟩)) (d : TypeDesc)
    (hu : P.underlying ty = some d) (hd : d.isRow = true) (hi : (P.info? ty).map (·.size) = some vs.length) : (results fn tmps).run P w = .ok (.agg vs.toArray) w := by
  have h1 := run_loadVar_mid (P := P) w X 0 ty vs d hB.range hu hd hi
  have hp' : tmps[p]?.getD undef = .pointer (some ⟨X, 0, none⟩) := by simpa using hp
  simp [results, h, hp', asAddr, h1]
theorem results_box3 {P : Program} {w : World} {S : Nat → Prop} {fn : Func} {p u v : Tmp} {ty : TypeId} (h : fn.results = #[.cell p ty, .tmp u, .tmp v]) {X : Nat} {vs : List Value} (hB : Bx S w X vs) {tmps : Array Value} (hp : tmps.getD p undef = .pointer (some ⟨X, 0, none⟩)) {x y : Value} (hx : tmps.getD u undef = x) (hy : tmps.getD v undef = y) (d : TypeDesc)
    (hu : P.underlying ty = some d) (hd : d.isRow = true) (hi : (P.info? ty).map (·.size) = some vs.length) : (results fn tmps).run P w = .ok (.tuple #[.agg vs.toArray, x, y]) w := by
  have h1 := run_loadVar_mid (P := P) w X 0 ty vs d hB.range hu hd hi
  have hp' : tmps[p]?.getD undef = .pointer (some ⟨X, 0, none⟩) := by simpa using hp
  have hx' : tmps[u]?.getD undef = x := by simpa using hx
  have hy' : tmps[v]?.getD undef = y := by simpa using hy
  simp [results, h, hp', hx', hy', asAddr, h1, Sem.run_bind, Result.andThen]
/-- the rows of the reference's reply -/
structure Tfs where
  fa : Tr
  su : Tr
  cg : Tr
def Tfs.z : Tfs := ⟨.z, .z, .z⟩
/-- the reference's reply in its cells -/
def rfV (x : Rf) (t : Tfs) : List Value :=
  [.int .u8 ((x.opcode : Nat) : Int), .int .u32 ((x.code : Nat) : Int), .string (str x.text), .int .u16 ((x.level : Nat) : Int), .int .i32 x.received, .int .i32 x.needed, .int .i32 x.failures, .int .u8 ((x.data : Nat) : Int), .string (str x.write), .string (str x.space), .string (str x.name), t.fa.v,
   .string (str x.ident), t.su.v, .int .i64 x.token.kind, .string (str x.token.bytes), .string (str x.event), .string (str x.what), .string (str x.addr.addr), .int .u32 ((x.addr.port : Nat) : Int), .string (str x.change.what), .string (str x.change.target), .string (str x.change.space), .string (str x.change.name), t.cg.v, .int .u32 ((x.kind : Nat) : Int), .string (str x.rest)]
structure RfR (S : Nat → Prop) (w : World) (x : Rf) (t : Tfs) : Prop where
  fa : Arr 5 (itemP S w) S w t.fa.a t.fa.n t.fa.c (x.args.map .ofText)
  su : Arr 5 (itemP S w) S w t.su.a t.su.n t.su.c (x.support.map .ofMulti)
  cg : Arr 5 (itemP S w) S w t.cg.a t.cg.n t.cg.c (x.change.args.map .ofText)
theorem goesRf {x : Rf} {t : Tfs} : Goes fun S w => RfR S w x t :=
  ⟨fun h hs hk => ⟨goesArrI.keep h.1 hs hk, goesArrI.keep h.2 hs hk, goesArrI.keep h.3 hs hk⟩, fun h hS => ⟨goesArrI.mono h.1 hS, goesArrI.mono h.2 hS, goesArrI.mono h.3 hS⟩⟩
set_option maxHeartbeats 2000000 in
set_option maxRecDepth 100000 in
theorem among_any {s W : B} {w : World} (hW : W.length ≤ 1000) :
    Calls Tryz.prog 28 #[.string (str s), .string (str W)] w fun e w' => e = .returned (.bool (decide (s ∈ splitW W))) ∧ w = w' := by
  have h0 : (s ∈ splitW W) ↔ s ∈ restW W 0 := by unfold restW; rw [if_pos (Nat.zero_le _)]; rfl
  have H0 := Lib.hid h0; clear h0
  obtain ⟨N, hN⟩ : ∃ N, W.length = N := ⟨_, rfl⟩
  have HN := Lib.hid hN
  rw [hN] at hW
  have hsz : (str W).size = N := by rw [str_size, hN]
  clear hN
  go_enter Tryz.func28, Tryz.ntmps28
  go_wp2_with fail
  go_loopw [5, 6] (fun f i wr => ∃ a k : Nat, f = .int .i64 (a : Nat) ∧ i = .int .i64 (k : Nat) ∧ a ≤ k ∧ k ≤ N + 1 ∧ Hid (k = N + 1 → a = N + 1) ∧ Hid (∀ j, a ≤ j → j < k → W[j]? ≠ some 32) ∧ Hid (s ∈ splitW W ↔ s ∈ restW W a) ∧ w = wr) (fun _ i _ => N + 1 - (intOf i).toNat)
  case atStart => exact ⟨0, 0, rfl, rfl, Nat.le_refl _, by omega, Lib.hid (fun h => by omega), Lib.hid (fun j h1 h2 => by omega), H0, rfl⟩
  case round =>
    obtain ⟨a, k, rfl, rfl, hak, hk, HE, HQ, HM, rfl⟩ := hrel
    by_cases hlt : k ≤ N
    · by_cases he : k = N
      · have hsub := run_sub W a k hak (by have := HN.out; omega)
        have hst := Lib.hid (rest_step (s := s) hak (by have := HN.out; omega) HQ.out (.inl (by have := HN.out; omega)))
        obtain ⟨seg, hseg⟩ : ∃ seg, (W.drop a).take (k - a) = seg := ⟨_, rfl⟩
        rw [hseg] at hsub hst
        clear hseg
        have q1 : ((k : Int) == (N : Int)) = true := by rw [he]; simp
        by_cases hs : seg = s
        · have q2 : (seg == s) = true := by rw [hs]; simp
          have HD : Hid (decide (s ∈ splitW W) = true) := Lib.hid (decide_eq_true (HM.out.2 (hst.out.2 (.inl hs))))
          clear hs he
          go_wp2_with fail
          go_ret
          exact ⟨by rw [HD.out]; rfl, rfl⟩
        · have q2 : (seg == s) = false := beq_eq_false_iff_ne.2 hs
          have HM2 : Hid (s ∈ splitW W ↔ s ∈ restW W (k + 1)) := Lib.hid (HM.out.trans (hst.out.trans ⟨fun h => h.resolve_left hs, .inr⟩))
          have hkn := he
          clear hs he
          have HE2 : Hid (k + 1 = N + 1 → k + 1 = N + 1) := Lib.hid id
          clear hkn
          go_wp2_with fail
          refine ⟨⟨k + 1, k + 1, by go_num, by go_num, Nat.le_refl _, by omega, HE2, Lib.hid (fun j h1 h2 => by omega), HM2, trivial⟩, by simp [intOf]; omega⟩
      · obtain ⟨c, hc⟩ : ∃ c, W[k]? = some c := ⟨_, List.getElem?_eq_getElem (by have := HN.out; omega)⟩
        have hix := run_idx W k c hc
        have q1 : ((k : Int) == (N : Int)) = false := beq_eq_false_iff_ne.2 (by omega)
        by_cases h32 : c = 32
        · have q3 : ((c.toNat : Int) == 32) = true := by rw [h32]; rfl
          have hsub := run_sub W a k hak (by have := HN.out; omega)
          have hst := Lib.hid (rest_step (s := s) hak (by have := HN.out; omega) HQ.out (.inr (by rw [hc, h32])))
          obtain ⟨seg, hseg⟩ : ∃ seg, (W.drop a).take (k - a) = seg := ⟨_, rfl⟩
          rw [hseg] at hsub hst
          clear hseg hc
          by_cases hs : seg = s
          · have q2 : (seg == s) = true := by rw [hs]; simp
            have HD : Hid (decide (s ∈ splitW W) = true) := Lib.hid (decide_eq_true (HM.out.2 (hst.out.2 (.inl hs))))
            clear hs he h32
            go_wp2_with fail
            go_ret
            exact ⟨by rw [HD.out]; rfl, rfl⟩
          · have q2 : (seg == s) = false := beq_eq_false_iff_ne.2 hs
            have HM2 : Hid (s ∈ splitW W ↔ s ∈ restW W (k + 1)) := Lib.hid (HM.out.trans (hst.out.trans ⟨fun h => h.resolve_left hs, .inr⟩))
            have HE2 : Hid (k + 1 = N + 1 → k + 1 = N + 1) := Lib.hid id
            clear hs he h32
            go_wp2_with fail
            refine ⟨⟨k + 1, k + 1, by go_num, by go_num, Nat.le_refl _, by omega, HE2, Lib.hid (fun j h1 h2 => by omega), HM2, trivial⟩, by simp [intOf]; omega⟩
        · have q3 : ((c.toNat : Int) == 32) = false := beq_eq_false_iff_ne.2 (fun e => h32 (UInt8.toNat_inj.1 (by rw [show c.toNat = 32 by omega]; rfl)))
          have HQ2 : Hid (∀ j, a ≤ j → j < k + 1 → W[j]? ≠ some 32) := Lib.hid (fun j h1 h2 => by
            by_cases e : j = k
            · rw [e, hc]; exact fun e2 => h32 (by injection e2)
            · exact HQ.out j h1 (by omega))
          have HE2 : Hid (k + 1 = N + 1 → a = N + 1) := Lib.hid (fun e => absurd (by omega) he)
          clear hc h32 he
          go_wp2_with fail
          refine ⟨⟨a, k + 1, by go_num, by go_num, by omega, by omega, HE2, HQ2, HM, trivial⟩, by simp [intOf]; omega⟩
    · have hkn : k = N + 1 := by omega
      have HD : Hid (decide (s ∈ splitW W) = false) := Lib.hid (decide_eq_false (fun h => by
        have := HM.out.1 h
        rw [HE.out hkn] at this
        unfold restW at this
        rw [if_neg (by have := HN.out; omega)] at this
        cases this))
      clear hkn
      go_wp2_with fail
      go_ret
      exact ⟨by rw [HD.out]; rfl, rfl⟩
set_option maxHeartbeats 2000000 in
set_option maxRecDepth 100000 in
theorem faultParts_any {c : Nat} {w : World} :
    Calls Tryz.prog 27 #[.int .u32 ((c : Nat) : Int)] w fun e w' => e = .returned (.string (str (fpL c))) ∧ w = w' := by
  by_cases h4096 : c = 4096
  · subst h4096
    go_enter Tryz.func27, Tryz.ntmps27
    go_wp2_with fail
    go_ret
    exact ⟨rfl, rfl⟩
  by_cases h4352 : c = 4352
  · subst h4352
    go_enter Tryz.func27, Tryz.ntmps27
    go_wp2_with fail
    go_ret
    exact ⟨rfl, rfl⟩
  by_cases h4608 : c = 4608
  · subst h4608
    go_enter Tryz.func27, Tryz.ntmps27
    go_wp2_with fail
    go_ret
    exact ⟨rfl, rfl⟩
  by_cases h4864 : c = 4864
  · subst h4864
    go_enter Tryz.func27, Tryz.ntmps27
    go_wp2_with fail
    go_ret
    exact ⟨rfl, rfl⟩
  by_cases h5376 : c = 5376
  · subst h5376
    go_enter Tryz.func27, Tryz.ntmps27
    go_wp2_with fail
    go_ret
    exact ⟨rfl, rfl⟩
  by_cases h5120 : c = 5120
  · subst h5120
    go_enter Tryz.func27, Tryz.ntmps27
    go_wp2_with fail
    go_ret
    exact ⟨rfl, rfl⟩
  by_cases h9216 : c = 9216
  · subst h9216
    go_enter Tryz.func27, Tryz.ntmps27
    go_wp2_with fail
    go_ret
    exact ⟨rfl, rfl⟩
  by_cases h9472 : c = 9472
  · subst h9472
    go_enter Tryz.func27, Tryz.ntmps27
    go_wp2_with fail
    go_ret
    exact ⟨rfl, rfl⟩
  have n4096 : ((c : Int) == 4096) = false := beq_eq_false_iff_ne.2 (by omega)
  have n4352 : ((c : Int) == 4352) = false := beq_eq_false_iff_ne.2 (by omega)
  have n4608 : ((c : Int) == 4608) = false := beq_eq_false_iff_ne.2 (by omega)
  have n4864 : ((c : Int) == 4864) = false := beq_eq_false_iff_ne.2 (by omega)
  have n5376 : ((c : Int) == 5376) = false := beq_eq_false_iff_ne.2 (by omega)
  have n5120 : ((c : Int) == 5120) = false := beq_eq_false_iff_ne.2 (by omega)
  have n9216 : ((c : Int) == 9216) = false := beq_eq_false_iff_ne.2 (by omega)
  have n9472 : ((c : Int) == 9472) = false := beq_eq_false_iff_ne.2 (by omega)
  have HX : Hid (fpL c = []) := Lib.hid (by unfold fpL; simp only [h4096, h4352, h4608, h4864, h5376, h5120, h9216, h9472, if_false])
  clear h4096 h4352 h4608 h4864 h5376 h5120 h9216 h9472
  go_enter Tryz.func27, Tryz.ntmps27
  go_wp2_with fail
  go_ret
  exact ⟨by rw [HX.out]; rfl, rfl⟩
set_option maxHeartbeats 2000000 in
set_option maxRecDepth 100000 in
theorem first_any {op : Nat} {w : World} :
    Calls Tryz.prog 14 #[.int .u8 ((op : Nat) : Int)] w fun e w' => e = .returned (.tuple #[.string (str ((firstL op).getD [])), .bool (firstL op).isSome]) ∧ w = w' := by
  by_cases h0 : op = 0
  · subst h0
    go_enter Tryz.func14, Tryz.ntmps14
    go_wp2_with fail
    go_ret2
    exact ⟨rfl, rfl⟩
  by_cases h2 : op = 2
  · subst h2
    go_enter Tryz.func14, Tryz.ntmps14
    go_wp2_with fail
    go_ret2
    exact ⟨rfl, rfl⟩
  by_cases h3 : op = 3
  · subst h3
    go_enter Tryz.func14, Tryz.ntmps14
    go_wp2_with fail
    go_ret2
    exact ⟨rfl, rfl⟩
  by_cases h6 : op = 6
  · subst h6
    go_enter Tryz.func14, Tryz.ntmps14
    go_wp2_with fail
    go_ret2
    exact ⟨rfl, rfl⟩
  by_cases h8 : op = 8
  · subst h8
    go_enter Tryz.func14, Tryz.ntmps14
    go_wp2_with fail
    go_ret2
    exact ⟨rfl, rfl⟩
  by_cases h12 : op = 12
  · subst h12
    go_enter Tryz.func14, Tryz.ntmps14
    go_wp2_with fail
    go_ret2
    exact ⟨rfl, rfl⟩
  by_cases h14 : op = 14
  · subst h14
    go_enter Tryz.func14, Tryz.ntmps14
    go_wp2_with fail
    go_ret2
    exact ⟨rfl, rfl⟩
  by_cases h16 : op = 16
  · subst h16
    go_enter Tryz.func14, Tryz.ntmps14
    go_wp2_with fail
    go_ret2
    exact ⟨rfl, rfl⟩
  have n0 : ((op : Int) == 0) = false := beq_eq_false_iff_ne.2 (by omega)
  have n2 : ((op : Int) == 2) = false := beq_eq_false_iff_ne.2 (by omega)
  have n3 : ((op : Int) == 3) = false := beq_eq_false_iff_ne.2 (by omega)
  have n6 : ((op : Int) == 6) = false := beq_eq_false_iff_ne.2 (by omega)
  have n8 : ((op : Int) == 8) = false := beq_eq_false_iff_ne.2 (by omega)
  have n12 : ((op : Int) == 12) = false := beq_eq_false_iff_ne.2 (by omega)
  have n14 : ((op : Int) == 14) = false := beq_eq_false_iff_ne.2 (by omega)
  have n16 : ((op : Int) == 16) = false := beq_eq_false_iff_ne.2 (by omega)
  have HX : Hid (firstL op = none) := Lib.hid (by unfold firstL; simp only [h0, h2, h3, h6, h8, h12, h14, h16, if_false, or_self])
  clear h0 h2 h3 h6 h8 h12 h14 h16
  go_enter Tryz.func14, Tryz.ntmps14
  go_wp2_with fail
  go_ret2
  exact ⟨by rw [HX.out]; rfl, rfl⟩
end Go.Proofs.Sb
