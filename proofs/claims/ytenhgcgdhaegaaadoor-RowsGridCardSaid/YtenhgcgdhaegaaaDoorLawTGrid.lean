/- The walk over signalboxlaw10.RowsGrid: true at every input, and nothing that was there has turned. Conditions: the table of names reads as it was laid. -/
import Derived.Test.YtenhgcgdhaegaaaDoorAwake10
import Derived.Test.YtenhgcgdhaegaaaDoorSlight10
import Derived.Test.YtenhgcgdhaegaaaDoorTgb
import Derived.Test.YtenhgcgdhaegaaaDoorRefb
import Derived.Laws.DeepStrings4
import Derived.Deep.CutBlock
import Derived.Deep.DeepCutAuto
set_option linter.unusedVariables false
set_option linter.unusedSimpArgs false
namespace Go.Proofs.Sb
open Go.RowKit _root_.Sb
theorem abs_cells {F : World → Prop} {W : World} {a : Array Value} {t : TypeId} (h : ∀ w', Below W.heap.size W w' → Bx (fun b => b = W.heap.size) w' W.heap.size a.toList → F w') : F (W.alloc (.cells a t)) :=
  h _ ((Below.refl _ _).alloc (Nat.le_refl _) _) (Bx.alloc W a t (S := fun b => b = W.heap.size) rfl rfl)
theorem abs_cellsd {F : World → Prop} {W : World} {a : Array Value} {t : TypeId} (h : ∀ w', Below W.heap.size W w' → Bx (fun b => b = W.heap.size) w' W.heap.size a.toList → F w') : F ((W.alloc (.cells a t)).drew) :=
  h _ (((Below.refl _ _).alloc (Nat.le_refl _) _).drew) (goesBx.after (Bx.alloc W a t (S := fun b => b = W.heap.size) rfl rfl) ((Below.refl _ _).drew))
theorem bv_two8 {a b : Nat} (ha : a < 256) (hb : b < 256) : #[Value.int .u8 (a : Int), Value.int .u8 (b : Int)].toList = bv [UInt8.ofNat a, UInt8.ofNat b] := by
  have h1 := bv_one8 ha
  have h2 := bv_one8 hb
  show [Value.int .u8 (a : Int)] ++ [Value.int .u8 (b : Int)] = _
  rw [h1, h2]
  rfl
theorem wt_grid {w h : Nat} {v : B} (hw : w < 8) (hh : h < 8) (hv : v.length ≤ 100) : wtT 1 (gridT w h v) ≤ 10000000 := by
  have s1 := sum_leG (colWt 1) (M := 200009) (l := (gridT w h v).cols) fun x hx => by obtain ⟨i, _, rfl⟩ := List.mem_map.1 hx; have a1 : (colG i).space.length = 1 := rfl; have a2 : (colG i).table.length = 1 := rfl; have a3 : (colG i).name.length = 1 := rfl; have a4 : nD 1 (colG i).type = 1 := rfl; unfold colWt; omega
  have s2 := sum_leG rowWt (M := 742) (l := (gridT w h v).rows) fun l hl => by
    obtain ⟨i, _, rfl⟩ := List.mem_map.1 hl
    have := sum_leG (fun x : Val => x.bytes.length + 4) (M := 106) (l := rowG v w i) fun y hy => by
      obtain ⟨k, _, rfl⟩ := List.mem_map.1 hy
      show v.length + 1 + 1 + 4 ≤ 106
      omega
    have hl : (rowG v w i).length = w := by unfold rowG; simp
    rw [hl] at this
    unfold rowWt
    omega
  have l1 : (gridT w h v).cols.length = w := by show ((List.range w).map colG).length = w; simp
  have l2 : (gridT w h v).rows.length = h := by show ((List.range h).map (rowG v w)).length = h; simp
  rw [l1] at s1
  rw [l2] at s2
  unfold wtT
  have : (gridT w h v).state.bytes.length = 0 := rfl
  omega
theorem ext_grid {k : Nat} (h : k < 8) : ∃ k1 : Int, IntKind.i64.wrap ((k : Int) + 1) = k1 ∧ 0 ≤ k1 ∧ k1 ≤ 8 ∧ (k : Int) ≤ k1 ∧ (ByteArray.mk #[97, 98, 99, 100, 101, 102, 103, 104]).extract k k1.toNat = str [UInt8.ofNat (97 + k)] := by
  refine ⟨((k + 1 : Nat) : Int), ?_, by omega, by omega, by omega, ?_⟩
  · have e : ((k : Int) + 1) = ((k + 1 : Nat) : Int) := by omega
    rw [e]
    exact wrap_small _ (by omega) (by omega)
  · rw [Int.toNat_natCast]
    have h8 : k = 0 ∨ k = 1 ∨ k = 2 ∨ k = 3 ∨ k = 4 ∨ k = 5 ∨ k = 6 ∨ k = 7 := by omega
    rcases h8 with rfl | rfl | rfl | rfl | rfl | rfl | rfl | rfl <;> rfl
set_option maxHeartbeats 16000000 in
set_option maxRecDepth 100000 in
theorem rowsGrid_any {S : Nat → Prop} {w : World} {wd hg : Nat} {V : Option Addr} {vn vc : Nat} {bs : B} (hwd : wd < 256) (hhg : hg < 256) (hv : Sl S w V vn vc bs) (hpl : Pl w) :
    Calls Tryd.prog 8 #[.int .u8 (wd : Int), .int .u8 (hg : Int), .slice V vn vc] w fun e w' => e = .returned (.bool true) ∧ Below w.heap.size w w' := by
  have HV := Lib.hid (hv.mono (S' := fun b => S b ∧ b < w.heap.size) fun _ h1 h2 => ⟨h1, h2⟩)
  have HVL := Lib.hid hv.len
  have hvc := hv.cap
  have hvm := hv.capMax
  clear hv
  have HPL := Lib.hid hpl; clear hpl
  go_enter Tryd.func8, Tryd.ntmps8
  go_wp2_with fail
  refine (awake10 HPL.out).mono ?_
  rintro e w1 ⟨rfl, hb1⟩
  have HB1 := Lib.hid hb1; clear hb1
  obtain ⟨n, hn, hn8⟩ : ∃ n : Nat, (wd : Int) % 8 = (n : Int) ∧ n < 8 := ⟨wd % 8, by omega, by omega⟩
  obtain ⟨m, hm, hm8⟩ : ∃ m : Nat, (hg : Int) % 8 = (m : Int) ∧ m < 8 := ⟨hg % 8, by omega, by omega⟩
  by_cases hlen : 100 < vn
  · go_wp2_with fail
    go_ret
    exact ⟨rfl, HB1.out⟩
  · go_upto_region 9 with fail
    clear hn hm
    obtain ⟨ρ2, i2⟩ := GB.start (t0 := 29) w1 (Bx.alloc w1 #[.int .i64 (n : Int), .slice none 0 0, .bool false, .int .i64 0, .slice none 0 0, .slice none 0 0] 29 (S := fun b => b = w1.heap.size) rfl rfl) ((Below.refl _ _).alloc (Nat.le_refl _) _)
    have I2 := Lib.hid i2
    clear i2
    go_upto_block 0 with fail
    go_cut [11] (fun _ wx => ∃ ρ c, Hid (GB w1 w1.heap.size [.int .i64 (n : Int), .slice c.1 c.2.1 c.2.2, .bool false, .int .i64 0, .slice none 0 0, .slice none 0 0] c ((List.range n).map colG) Pl3.none [] Pl3.none [] ρ wx))
    case first =>
      go_wp2_with fail
      go_loopw [11] (fun i wr => ∃ ρ k c, k ≤ n ∧ i = .int .i64 (k : Nat) ∧ Hid (GB w1 w1.heap.size [.int .i64 (n : Int), .slice c.1 c.2.1 c.2.2, .bool false, .int .i64 0, .slice none 0 0, .slice none 0 0] c ((List.range k).map colG) Pl3.none [] Pl3.none [] ρ wr)) (fun i _ => n - (intOf i).toNat)
      case atStart => exact ⟨_, 0, Pl3.none, by omega, rfl, I2⟩
      case round =>
        clear I2
        obtain ⟨ρ, k, c, hk, rfl, I3⟩ := hrel
        have tl := I3.out.t.lt
        by_cases hlt : k < n
        · go_upto_region 12 with fail
          have t1 := I3.out.t.c 1 _ rfl
          obtain ⟨k1, hk1, h01, h08, h12, hex'⟩ := ext_grid (k := k) (by omega)
          obtain ⟨nmk, hnm⟩ : ∃ nmk : B, nmk = [UInt8.ofNat (97 + k)] := ⟨_, rfl⟩
          have hex : (ByteArray.mk #[97, 98, 99, 100, 101, 102, 103, 104]).extract k k1.toNat = str nmk := hnm ▸ hex'
          have HCK : Hid (∀ W, colP 9223372036854775807 0 (Rl ρ 6) W (colG k) [.string ⟨#[115]⟩, .string ⟨#[116]⟩, .string (str nmk), .int .u16 3, .string ⟨#[]⟩, .string ⟨#[]⟩, .slice none 0 0, .slice none 0 0]) := by
            rw [hnm]
            exact Lib.hid fun W => ⟨none, 0, 0, none, 0, 0, rfl, (by show 1 ≤ 9223372036854775807; decide), (by show 1 ≤ 9223372036854775807; decide), (by show 1 ≤ 9223372036854775807; decide), (by show 3 < 65536; decide), (by show 0 ≤ 9223372036854775807; decide), (by show 0 ≤ 9223372036854775807; decide), Arr.nil, Arr.nil⟩
          clear hnm hex'
          have hcl : c.2.1 ≤ 8 := by have := I3.out.cl.len (by decide); rw [List.length_map, List.length_range] at this; omega
          refine regf_start (G35 wr.heap.size ρ) (by kernel_rfl) ?_
          (refine regf_take 0 (v := ?_) (by rfl) (by kernel_rfl) (by kernel_rfl) (by kernel_rfl) (by exact fun _ _ _ h => h) (by rfl) ?_ ?_; rotate_left; focus (intro w hSw; go_simp; try with_reducible rfl))
          simp only [Act.put, List.setIfInBounds_toArray, List.set_cons_zero, List.set_cons_succ]
          (refine regf_take 2 (v := ?_) (by rfl) (by kernel_rfl) (by kernel_rfl) (by kernel_rfl) (by exact fun _ _ _ h => h) (by rfl) ?_ ?_; rotate_left; focus (intro w hSw; go_simp; try with_reducible rfl))
          simp only [Act.put, List.setIfInBounds_toArray, List.set_cons_zero, List.set_cons_succ]
          (refine regf_take 3 (v := ?_) (by rfl) (by kernel_rfl) (by kernel_rfl) (by kernel_rfl) (by exact fun _ _ _ h => h) (by rfl) ?_ ?_; rotate_left; focus (intro w hSw; go_simp; try with_reducible rfl))
          simp only [Act.put, List.setIfInBounds_toArray, List.set_cons_zero, List.set_cons_succ]
          (refine regf_take 4 (v := ?_) (by rfl) (by kernel_rfl) (by kernel_rfl) (by kernel_rfl) (by exact fun _ _ _ h => h) (by rfl) ?_ ?_; rotate_left; focus (intro w hSw; go_simp; try with_reducible rfl))
          simp only [Act.put, List.setIfInBounds_toArray, List.set_cons_zero, List.set_cons_succ]
          (refine regf_take 5 (v := ?_) (by rfl) (by kernel_rfl) (by kernel_rfl) (by kernel_rfl) (by exact fun _ _ _ h => h) (by rfl) ?_ ?_; rotate_left; focus (intro w hSw; go_simp; try with_reducible rfl))
          simp only [Act.put, List.setIfInBounds_toArray, List.set_cons_zero, List.set_cons_succ]
          (refine regf_take 6 (v := ?_) (by rfl) (by kernel_rfl) (by kernel_rfl) (by kernel_rfl) (by exact fun _ _ _ h => h) (by rfl) ?_ ?_; rotate_left; focus (intro w hSw; go_simp; try with_reducible rfl))
          simp only [Act.put, List.setIfInBounds_toArray, List.set_cons_zero, List.set_cons_succ]
          (refine regf_take 7 (v := ?_) (by rfl) (by kernel_rfl) (by kernel_rfl) (by kernel_rfl) (by exact fun _ _ _ h => h) (by rfl) ?_ ?_; rotate_left; focus (intro w hSw; go_simp; try with_reducible rfl))
          simp only [Act.put, List.setIfInBounds_toArray, List.set_cons_zero, List.set_cons_succ]
          refine regf_two 1 8 (by kernel_rfl) (by rfl) (by rfl) (fun K hK => ?_) (fun K hK => ?_)
          focus
            go_simp
            refine hK.out _ _ ((Fr.refl _ _)) ?_
            clear hK K
            try simp only [Act.put, List.setIfInBounds_toArray, List.set_cons_zero, List.set_cons_succ]
            refine regf_call 8 (by kernel_rfl) (by rfl) (fun K hK => ?_)
            go_simp
            refine hK.out _ _ ((by exact Fr.of_below (by repeat (first | exact Below.refl _ _ | exact below_undrew (Below.refl _ _) | assumption | refine Below.drew ?_ | refine below_drewN ?_ _ | refine Below.alloc ?_ (by simp) _ | refine Below.setCell ?_ (by simp) _)))) ?_
            clear hK K
            try simp only [Act.put, List.setIfInBounds_toArray, List.set_cons_zero, List.set_cons_succ]
            refine regf_call 9 (by kernel_rfl) (by rfl) (fun K hK => ?_)
            refine step_appX rfl tyCol _ _ rfl (ρ := ρ) (r := 5) _ _ _ ((List.range k).map colG) rfl (I3.out.after (by repeat (first | exact Below.refl _ _ | assumption | refine Below.drew ?_ | refine below_drewN ?_ _ | refine Below.alloc ?_ (by first | (simp; done) | omega | (simp; omega)) _ | refine Below.setCell ?_ (by first | (simp; done) | omega | (simp; omega)) _))).cl _ _ _ _ [colG k] rfl (arr_lit (P := colP 9223372036854775807 0 (Rl ρ 6) _) _ #[.string ⟨#[115]⟩, .string ⟨#[116]⟩, .string (str nmk), .int .u16 3, .string ⟨#[]⟩, .string ⟨#[]⟩, .slice none 0 0, .slice none 0 0] (colG k) rfl (HCK.out _) (by first | rfl | simp)) colP_one (fun _ _ _ h => h) (by omega) (by unfold maxLen; omega) ?_; intro A5 m5 d5 w5 ρ5 hx5 hown5 hf5; have I5 := Lib.hid ((I3.out.after (by repeat (first | exact Below.refl _ _ | assumption | refine Below.drew ?_ | refine below_drewN ?_ _ | refine Below.alloc ?_ (by first | (simp; done) | omega | (simp; omega)) _ | refine Below.setCell ?_ (by first | (simp; done) | omega | (simp; omega)) _))).app5 (c' := (A5, m5, d5)) hf5 hx5 hown5); have t1b := I5.out.t.c 1 _ rfl; have kt1 := I5.out.t.fr 1; have tl5 := I5.out.t.lt
            refine hK.out _ _ ((Fr.i5 hf5)) ?_
            clear hK K
            try simp only [Act.put, List.setIfInBounds_toArray, List.set_cons_zero, List.set_cons_succ]
            (refine regf_take 10 (v := ?_) (by rfl) (by kernel_rfl) (by kernel_rfl) (by kernel_rfl) (by exact fun _ _ _ h => h) (by rfl) ?_ ?_; rotate_left; focus (intro w hSw; go_simp; try with_reducible rfl))
            simp only [Act.put, List.setIfInBounds_toArray, List.set_cons_zero, List.set_cons_succ]
            refine regf_call 11 (by kernel_rfl) (by rfl) (fun K hK => ?_)
            go_simp
            refine hK.out _ _ ((Fr.i3 (Fr.set _ (X := w1.heap.size) I3.out.t.role _))) ?_
            clear hK K
            try simp only [Act.put, List.setIfInBounds_toArray, List.set_cons_zero, List.set_cons_succ]
            refine wpAnyH_done (by kernel_rfl) ?_ _
          rotate_left 1
          focus
            go_simp
            refine hK.out _ _ ((by exact Fr.of_below (by repeat (first | exact Below.refl _ _ | exact below_undrew (Below.refl _ _) | assumption | refine Below.drew ?_ | refine below_drewN ?_ _ | refine Below.alloc ?_ (by simp) _ | refine Below.setCell ?_ (by simp) _)))) ?_
            clear hK K
            try simp only [Act.put, List.setIfInBounds_toArray, List.set_cons_zero, List.set_cons_succ]
            refine regf_call 1 (by kernel_rfl) (by rfl) (fun K hK => ?_)
            go_simp
            refine hK.out _ _ ((Fr.refl _ _)) ?_
            clear hK K
            try simp only [Act.put, List.setIfInBounds_toArray, List.set_cons_zero, List.set_cons_succ]
            refine regf_call 9 (by kernel_rfl) (by rfl) (fun K hK => ?_)
            refine step_appX rfl tyCol _ _ rfl (ρ := ρ) (r := 5) _ _ _ ((List.range k).map colG) rfl (I3.out.after (by repeat (first | exact Below.refl _ _ | assumption | refine Below.drew ?_ | refine below_drewN ?_ _ | refine Below.alloc ?_ (by first | (simp; done) | omega | (simp; omega)) _ | refine Below.setCell ?_ (by first | (simp; done) | omega | (simp; omega)) _))).cl _ _ _ _ [colG k] rfl (arr_lit (P := colP 9223372036854775807 0 (Rl ρ 6) _) _ #[.string ⟨#[115]⟩, .string ⟨#[116]⟩, .string (str nmk), .int .u16 3, .string ⟨#[]⟩, .string ⟨#[]⟩, .slice none 0 0, .slice none 0 0] (colG k) rfl (HCK.out _) (by first | rfl | simp)) colP_one (fun _ _ _ h => h) (by omega) (by unfold maxLen; omega) ?_; intro A5 m5 d5 w5 ρ5 hx5 hown5 hf5; have I5 := Lib.hid ((I3.out.after (by repeat (first | exact Below.refl _ _ | assumption | refine Below.drew ?_ | refine below_drewN ?_ _ | refine Below.alloc ?_ (by first | (simp; done) | omega | (simp; omega)) _ | refine Below.setCell ?_ (by first | (simp; done) | omega | (simp; omega)) _))).app5 (c' := (A5, m5, d5)) hf5 hx5 hown5); have t1b := I5.out.t.c 1 _ rfl; have kt1 := I5.out.t.fr 1; have tl5 := I5.out.t.lt
            refine hK.out _ _ ((Fr.i5 hf5)) ?_
            clear hK K
            try simp only [Act.put, List.setIfInBounds_toArray, List.set_cons_zero, List.set_cons_succ]
            (refine regf_take 10 (v := ?_) (by rfl) (by kernel_rfl) (by kernel_rfl) (by kernel_rfl) (by exact fun _ _ _ h => h) (by rfl) ?_ ?_; rotate_left; focus (intro w hSw; go_simp; try with_reducible rfl))
            simp only [Act.put, List.setIfInBounds_toArray, List.set_cons_zero, List.set_cons_succ]
            refine regf_call 11 (by kernel_rfl) (by rfl) (fun K hK => ?_)
            go_simp
            refine hK.out _ _ ((Fr.i3 (Fr.set _ (X := w1.heap.size) I3.out.t.role _))) ?_
            clear hK K
            try simp only [Act.put, List.setIfInBounds_toArray, List.set_cons_zero, List.set_cons_succ]
            refine wpAnyH_done (by kernel_rfl) ?_ _
          all_goals
            have I6 := Lib.hid (I5.out.put 1 (.slice A5 m5 d5) (by simp))
            rw [show (List.range k).map colG ++ [colG k] = (List.range (k + 1)).map colG from by rw [List.range_succ, List.map_append]; rfl] at I6
            clear I5 I3 hx5 hown5 hf5 t1b t1 kt1 hk1 hex
            go_wp2_with fail
            exact ⟨⟨ρ5, k + 1, (A5, m5, d5), by omega, by go_num, I6⟩, by simp [intOf]; omega⟩
        · obtain rfl : n = k := by omega
          go_wp2_with fail
          go_meet
          exact ⟨ρ, c, I3⟩
    case rest =>
      obtain ⟨ρ3, c, I3⟩ := hcut
      obtain ⟨w3, hwo⟩ : ∃ wo, wo = wc := ⟨_, rfl⟩
      subst hwo
      clear I2
      have hcv1 : ∀ k : Nat, k < 8 → IntKind.u8.wrap (k : Int) = (k : Int) := fun k h => by
        have h8 : k = 0 ∨ k = 1 ∨ k = 2 ∨ k = 3 ∨ k = 4 ∨ k = 5 ∨ k = 6 ∨ k = 7 := by omega
        rcases h8 with rfl | rfl | rfl | rfl | rfl | rfl | rfl | rfl <;> rfl
      have HCV1 := Lib.hid hcv1; clear hcv1
      go_upto_block 2 with fail
      go_cut [12, 13, 14] (fun _ _ _ wx => ∃ ρ q, Hid (GB w1 w1.heap.size [.int .i64 (n : Int), .slice c.1 c.2.1 c.2.2, .bool false, .int .i64 0, .slice none 0 0, .slice q.1 q.2.1 q.2.2] c ((List.range n).map colG) q ((List.range m).map (rowG bs n)) Pl3.none [] ρ wx))
      case first =>
        go_wp2_with fail
        go_loopw [12, 13, 14] (fun i _ _ wr => ∃ ρ k q, k ≤ m ∧ i = .int .i64 (k : Nat) ∧ Hid (GB w1 w1.heap.size [.int .i64 (n : Int), .slice c.1 c.2.1 c.2.2, .bool false, .int .i64 0, .slice none 0 0, .slice q.1 q.2.1 q.2.2] c ((List.range n).map colG) q ((List.range k).map (rowG bs n)) Pl3.none [] ρ wr)) (fun i _ _ _ => m - (intOf i).toNat)
        case atStart => exact ⟨_, 0, Pl3.none, by omega, rfl, I3⟩
        case round =>
          clear I3
          obtain ⟨ρ, k, q, hk, rfl, I4⟩ := hrel
          by_cases hlt : k < m
          · obtain ⟨wo, hwo⟩ : ∃ wo, wo = wr := ⟨_, rfl⟩
            subst hwo
            have hwk : IntKind.u8.wrap (k : Int) = (k : Int) := HCV1.out k (by omega)
            go_wp2_with fail
            go_loopw [13, 14] (fun rv j wr => ∃ ρ k2 u, k2 ≤ n ∧ j = .int .i64 (k2 : Nat) ∧ rv = .slice u.1 u.2.1 u.2.2 ∧ Hid (GB w1 w1.heap.size [.int .i64 (n : Int), .slice c.1 c.2.1 c.2.2, .bool false, .int .i64 0, .slice none 0 0, .slice q.1 q.2.1 q.2.2] c ((List.range n).map colG) q ((List.range k).map (rowG bs n)) u ((List.range k2).map (cellG bs k)) ρ wr)) (fun _ j _ => n - (intOf j).toNat)
            case atStart => exact ⟨_, 0, Pl3.none, by omega, rfl, rfl, I4⟩
            case round =>
              clear I4
              obtain ⟨ρ5, k2, u, hk2, rfl, rfl, I5⟩ := hrel
              by_cases hlt2 : k2 < n
              · have hwk2 : IntKind.u8.wrap (k2 : Int) = (k2 : Int) := HCV1.out k2 (by omega)
                have HVX := Lib.hid (goesSl.after HV.out (HB1.out.trans (I5.out.bs.below.mono HB1.out.size)))
                have hbl : Below wr.heap.size wr (wr.alloc (.cells #[.int .u8 (k : Int), .int .u8 (k2 : Int)] 5)) := (Below.refl _ _).alloc (Nat.le_refl _) _
                have HOL : Hid (Own wr.heap.size (wr.alloc (.cells #[.int .u8 (k : Int), .int .u8 (k2 : Int)] 5)) (some ⟨wr.heap.size, 0, none⟩) 2 2 [UInt8.ofNat k, UInt8.ofNat k2]) := own_lit wr _ 2 _ (bv_two8 (by omega) (by omega)) (by rfl) (by decide) (Nat.le_refl _) rfl
                have HBL := Lib.hid hbl
                have HVL2 := Lib.hid (goesSl.after HVX.out hbl)
                clear hbl HVX
                have hul : u.2.1 ≤ 8 := by have := I5.out.us.len (by decide); rw [List.length_map, List.length_range] at this; omega
                go_wp2_with (first | (at_builtin; (refine wpList_appw rfl _ _ rfl wr.heap.size _ _ _ [UInt8.ofNat k, UInt8.ofNat k2] rfl HOL.out _ _ _ _ bs rfl HVL2.out (by have := HVL.out; simp only [List.length_cons, List.length_nil]; omega) HBL.out.size ?_); intro A6 n6 c6 w6 ho6 hg6 hw6; (have hb6 : Below wr.heap.size wr w6 := below_grow HBL.out hg6 HBL.out.size (fun b e => (HOL.out.block b e).1); obtain ⟨ρ6, hx6, i6⟩ := I5.out.belowE hb6 6; have HS6 : Hid (Sl (Rl ρ6 6) w6 A6 n6 c6 (UInt8.ofNat k :: UInt8.ofNat k2 :: bs)) := ho6.slb.mono (fun b hb _ => (by rw [hx6]; exact xt_ge hb.1)); have I6 := Lib.hid i6; have HBA := Lib.hid ((Below.refl w6.heap.size w6).alloc (Nat.le_refl _) (.cells #[.int .i64 2, .slice A6 n6 c6] 26)); have IA := Lib.hid (I6.out.after HBA.out); have HSA := Lib.hid (goesSl.after HS6.out HBA.out); clear ho6 hg6 hw6 hb6 hx6 i6)) | (at_builtin; (refine wpList_appX rfl tyVal _ _ rfl (ρ := ρ6) (r := 7) _ _ _ ((List.range k2).map (cellG bs k)) rfl IA.out.us _ _ _ _ [cellG bs k k2] rfl (arr_lit (P := valP (Rl ρ6 6) _) _ #[.int .i64 2, .slice A6 n6 c6] (cellG bs k k2) rfl ⟨A6, n6, c6, rfl, HSA.out⟩ (by simp)) (fun _ _ h => valP_one _ _ h) (fun _ _ _ h => h) (by omega) (by unfold maxLen; omega) ?_); intro A7 n7 c7 w7 ρ7 hx7 hown7 hf7; have I7 := Lib.hid (IA.out.app7 (u' := (A7, n7, c7)) hf7 hx7 hown7); clear hx7 hown7 hf7))
                rw [show (List.range k2).map (cellG bs k) ++ [cellG bs k k2] = (List.range (k2 + 1)).map (cellG bs k) from by rw [List.range_succ, List.map_append]; rfl] at I7
                exact ⟨⟨ρ7, k2 + 1, (A7, n7, c7), by omega, by go_num, rfl, I7⟩, by simp [intOf]; omega⟩
              · obtain rfl : n = k2 := by omega
                obtain ⟨ρ6, i6, hu6⟩ := I5.out.merge
                have HU := Lib.hid hu6
                have I6 := Lib.hid i6
                clear i6 hu6 I5
                have hql : q.2.1 ≤ 8 := by have := I6.out.rw.len (by decide); rw [List.length_map, List.length_range] at this; omega
                have HBA := Lib.hid ((Below.refl wr.heap.size wr).alloc (Nat.le_refl _) (.cells #[.slice u.1 u.2.1 u.2.2] 65))
                have IA := Lib.hid (I6.out.after HBA.out)
                have HUA := Lib.hid ((goesArrD goesVal).after HU.out HBA.out)
                have t5 := I6.out.t.c 5 _ rfl
                have tl6 := I6.out.t.lt
                go_wp2_with (first | (at_builtin; (refine wpList_appX rfl tyRow _ _ rfl (ρ := ρ6) (r := 4) _ _ _ ((List.range k).map (rowG bs n)) rfl IA.out.rw _ _ _ _ [rowG bs n k] rfl (arr_lit (P := vrowP (Rl ρ6 6) _) _ #[.slice u.1 u.2.1 u.2.2] (rowG bs n k) rfl ⟨u.1, u.2.1, u.2.2, rfl, HUA.out⟩ (by simp)) (fun _ _ h => vrowP_one _ _ h) (fun _ _ _ h => h) (by omega) (by unfold maxLen; omega) ?_); intro A9 m9 d9 w9 ρ9 hx9 hown9 hf9; have I9 := Lib.hid (IA.out.app4 (q' := (A9, m9, d9)) hf9 hx9 hown9); clear hx9 hown9 hf9; have t5b := I9.out.t.c 5 _ rfl; have kt5 := I9.out.t.fr 5; have tl9 := I9.out.t.lt))
                have I10 := Lib.hid (I9.out.put 5 (.slice A9 m9 d9) (by simp))
                rw [show (List.range k).map (rowG bs n) ++ [rowG bs n k] = (List.range (k + 1)).map (rowG bs n) from by rw [List.range_succ, List.map_append]; rfl] at I10
                exact ⟨⟨ρ9, k + 1, (A9, m9, d9), by omega, by go_num, I10⟩, by simp [intOf]; omega⟩
          · obtain rfl : m = k := by omega
            go_wp2_with fail
            go_meet
            exact ⟨ρ, q, I4⟩
      case rest =>
        obtain ⟨ρ4, q, I4⟩ := hcut
        obtain ⟨w4, hwo⟩ : ∃ wo, wo = wc := ⟨_, rfl⟩
        subst hwo
        clear I3
        have HT4 : Hid (TbR 9223372036854775807 0 (fun _ => True) w4 c Pl3.none q (gridT n m bs)) := I4.out.tb n
        have HB4 := Lib.hid (HB1.out.trans (I4.out.bs.below.mono HB1.out.size))
        have HX4 := Lib.hid I4.out.t
        have hbl : bs.length ≤ 100 := by have := HVL.out; omega
        have HBL := Lib.hid hbl
        obtain ⟨b, hput⟩ := put_grid (w := n) (h := m) (v := bs) hn8 hm8
        have HPUT := Lib.hid hput
        have hgot := tb_back (grid_31 hbl) hput
        rw [grid_norm] at hgot
        have HGOT := Lib.hid hgot
        have hwt := wt_grid (w := n) (h := m) hn8 hm8 hbl
        have HLE := Lib.hid (putT_le hput)
        clear hput hgot I4
        go_wp2_with (first | (refine wpList_loadB HX4.out (by rfl) 29 _ (by rfl) (by rfl) _ Tryd.underlying29 rfl (by kernel_rfl) ?_))
        have H5 := tPut_any (dp := 0) (one := true) (t := gridT n m bs) (q := q) (c := c) (d := Pl3.none) HT4.out (by decide) (HPL.out.after HB4.out) (by show wtT 1 (gridT n m bs) ≤ _; omega) (fun x hx => by obtain ⟨i, _, rfl⟩ := List.mem_map.1 hx; show 1 ≤ 1000000; decide)
        rw [HPUT.out] at H5
        refine H5.mono ?_
        clear H5
        rintro e w5 ⟨A5, n5, c5, rfl, ho5, hb5⟩
        have HO5 := Lib.hid ho5.sl
        have hl5 : n5 ≤ 140737488355328 := by have := ho5.len; have := HLE.out; simp only [wval_ok] at *; omega
        have HB5 := Lib.hid (HB4.out.trans (hb5.mono HB4.out.size))
        clear ho5 hb5 HX4 HB4 HT4
        go_wp2_with fail
        have H6 := tGet_any HO5.out hl5 (HPL.out.after HB5.out)
        rw [show (wval (.ok b) : B) = b from rfl, HGOT.out] at H6
        refine H6.mono ?_
        clear H6
        rintro e w6 ⟨c2, d2, q2, rfl, ht6, hb6⟩
        have HT6 : Hid (TbR 9223372036854775807 20 (fun _ => True) w6 c2 d2 q2 (gridT n m bs)) := goesTb.mono (S' := fun _ => True) ht6 fun _ _ _ => trivial
        have HB6 := Lib.hid (HB5.out.trans (hb6.mono HB5.out.size))
        have hq2 : q2.2.1 = m := by have := ht6.rw.len; rw [this]; show ((List.range m).map (rowG bs n)).length = m; simp
        clear ht6 hb6 HB5 HO5
        simp only [eV, eE]
        go_upto_region 24 with (first | (refine wpList_store_newB (by rfl) 29 _ _ (by rfl) _ _ _ _ (by rfl) (by rfl) (by simp) (by rfl) (by kernel_rfl) (by rfl) (by rfl) ?_; intro w7 hb7 hz7 hx7))
        have HX7 := Lib.hid hx7
        have HT7 := Lib.hid (HT6.out.after hb7)
        have HB7 := Lib.hid (HB6.out.trans (hb7.mono HB6.out.size))
        have hz7' : w7.heap.size = w6.heap.size + 1 := hz7
        clear hx7 hb7 hz7 HT6 HB6
        have t5 : w7.cell? ⟨w6.heap.size, 5, none⟩ = some (.slice q2.1 q2.2.1 q2.2.2) := HX7.out.c 5 _ rfl
        have HTL := Lib.hid (goesTb.mono (S' := fun b => b < w7.heap.size) HT7.out fun b _ h => h)
        clear HT7
        go_wp2_with fail
        go_loopw [19, 20, 21, 22] (fun i _ _ _ wr => ∃ k : Nat, k ≤ m ∧ i = .int .i64 (k : Nat) ∧ Hid (Below w7.heap.size w7 wr)) (fun i _ _ _ _ => m - (intOf i).toNat)
        case atStart => exact ⟨0, by omega, rfl, Below.refl _ _⟩
        case round =>
          clear t5 hq2
          obtain ⟨k, hk, rfl, HBk⟩ := hrel
          by_cases hlt : k < m
          · obtain ⟨wo, hwo⟩ : ∃ wo, wo = wr := ⟨_, rfl⟩
            subst hwo
            go_wp2_with fail
            go_loopw [20, 21, 22] (fun j _ _ wr => ∃ k2 : Nat, k2 ≤ n ∧ j = .int .i64 (k2 : Nat) ∧ Hid (Below w7.heap.size w7 wr)) (fun j _ _ _ => n - (intOf j).toNat)
            case atStart => exact ⟨0, by omega, rfl, HBk⟩
            case round =>
              clear HBk
              obtain ⟨k2, hk2, rfl, HBr⟩ := hrel
              by_cases hlt2 : k2 < n
              · obtain ⟨k1, hk1, h01, h08, h12, hex'⟩ := ext_grid (k := k2) (by omega)
                obtain ⟨nmk, hnm⟩ : ∃ nmk : B, nmk = [UInt8.ofNat (97 + k2)] := ⟨_, rfl⟩
                have hex : (ByteArray.mk #[97, 98, 99, 100, 101, 102, 103, 104]).extract k2 k1.toNat = str nmk := hnm ▸ hex'
                have hcell : cellT (gridT n m bs) (k : Int) nmk = some (cellG bs k k2) := hnm ▸ cell_grid hn8 hlt hlt2
                have hzr : w7.heap.size ≤ wr.heap.size := HBr.out.size
                have HCALL : Hid (∀ W, Below wr.heap.size wr W → Calls Tryd.prog 19 #[.agg #[.int .i64 (n : Int), .slice c2.1 c2.2.1 c2.2.2, .bool false, .int .i64 0, .slice d2.1 d2.2.1 d2.2.2, .slice q2.1 q2.2.1 q2.2.2], .int .i64 (k : Int), .string (str nmk)] W fun e w' => ∃ A n c, e = .returned (.tuple #[.agg #[.int .i64 2, .slice A n c], .bool true]) ∧ Sl (fun b => b < w7.heap.size) w' A n c (UInt8.ofNat k :: UInt8.ofNat k2 :: bs) ∧ Below W.heap.size W w') := by
                  intro W hW
                  have h := tCell_any (row := (k : Int)) (nm := nmk) (goesTb.after HTL.out (seqB HBr.out hW))
                  rw [hcell] at h
                  exact h
                clear hnm hex' hcell
                go_upto_region 32 with fail
                have hdr : Below wr.heap.size wr wr.drew := (Below.refl _ _).drew
                have HXr := Lib.hid (goesBx.after HX7.out HBr.out)
                have hT2 : ¬ wr.heap.size ≤ w6.heap.size := by omega
                have e0 := Fr.each (T := fun b => wr.heap.size ≤ b) hT2 (kcell hdr (HXr.out.c 0 (.int .i64 (n : Int)) rfl))
                have e1 := Fr.each (T := fun b => wr.heap.size ≤ b) hT2 (kcell hdr (HXr.out.c 1 (.slice c2.1 c2.2.1 c2.2.2) rfl))
                have e2 := Fr.each (T := fun b => wr.heap.size ≤ b) hT2 (kcell hdr (HXr.out.c 2 (.bool false) rfl))
                have e3 := Fr.each (T := fun b => wr.heap.size ≤ b) hT2 (kcell hdr (HXr.out.c 3 (.int .i64 0) rfl))
                have e4 := Fr.each (T := fun b => wr.heap.size ≤ b) hT2 (kcell hdr (HXr.out.c 4 (.slice d2.1 d2.2.1 d2.2.2) rfl))
                have e5 := Fr.each (T := fun b => wr.heap.size ≤ b) hT2 (kcell hdr (HXr.out.c 5 (.slice q2.1 q2.2.1 q2.2.2) rfl))
                clear hdr
                go_cut [21, 22] (fun v21 v22 wx => ∃ Q A n c, v21 = .pointer (some ⟨Q, 0, none⟩) ∧ v22 = .bool true ∧ Hid (wx.cell? ⟨Q, 0, none⟩ = some (.int .i64 2)) ∧ Hid (wx.cell? ⟨Q, 1, none⟩ = some (.slice A n c)) ∧ Hid (Sl (fun b => b < w7.heap.size) wx A n c (UInt8.ofNat k :: UInt8.ofNat k2 :: bs)) ∧ Hid (Below w7.heap.size w7 wx))
                case first =>
                  have HL : Below w7.heap.size w7 wr.drew := HBr.out.drew
                  refine regf_start (fun b => wr.heap.size ≤ b) (by kernel_rfl) ?_
                  (refine regf_take 0 (v := ?_) (by rfl) (by kernel_rfl) (by kernel_rfl) (by kernel_rfl) (by exact fun _ _ _ h => h) (by rfl) ?_ ?_; rotate_left; focus (intro w hSw; go_simp; try with_reducible rfl))
                  simp only [Act.put, List.setIfInBounds_toArray, List.set_cons_zero, List.set_cons_succ]
                  (refine regf_take 1 (v := ?_) (by rfl) (by kernel_rfl) (by kernel_rfl) (by kernel_rfl) (by exact fun _ _ _ h => h) (by rfl) ?_ ?_; rotate_left; focus (intro w hSw; go_simp; try with_reducible rfl))
                  simp only [Act.put, List.setIfInBounds_toArray, List.set_cons_zero, List.set_cons_succ]
                  (refine regf_take 2 (v := ?_) (by rfl) (by kernel_rfl) (by kernel_rfl) (by kernel_rfl) (by exact fun _ _ _ h => h) (by rfl) ?_ ?_; rotate_left; focus (intro w hSw; go_simp; try with_reducible rfl))
                  simp only [Act.put, List.setIfInBounds_toArray, List.set_cons_zero, List.set_cons_succ]
                  (refine regf_take 3 (v := ?_) (by rfl) (by kernel_rfl) (by kernel_rfl) (by kernel_rfl) (by exact fun _ _ _ h => h) (by rfl) ?_ ?_; rotate_left; focus (intro w hSw; go_simp; try with_reducible rfl))
                  simp only [Act.put, List.setIfInBounds_toArray, List.set_cons_zero, List.set_cons_succ]
                  (refine regf_take 4 (v := ?_) (by rfl) (by kernel_rfl) (by kernel_rfl) (by kernel_rfl) (by exact fun _ _ _ h => h) (by rfl) ?_ ?_; rotate_left; focus (intro w hSw; go_simp; try with_reducible rfl))
                  simp only [Act.put, List.setIfInBounds_toArray, List.set_cons_zero, List.set_cons_succ]
                  (refine regf_take 5 (v := ?_) (by rfl) (by kernel_rfl) (by kernel_rfl) (by kernel_rfl) (by exact fun _ _ _ h => h) (by rfl) ?_ ?_; rotate_left; focus (intro w hSw; go_simp; try with_reducible rfl))
                  simp only [Act.put, List.setIfInBounds_toArray, List.set_cons_zero, List.set_cons_succ]
                  refine regf_two 6 10 (by kernel_rfl) (by rfl) (by rfl) (fun K hK => ?_) (fun K hK => ?_)
                  focus
                    go_simp
                    go_at_call 19; refine (HCALL.out _ (by repeat (first | exact Below.refl _ _ | exact below_undrew (Below.refl _ _) | assumption | refine Below.drew ?_ | refine below_drewN ?_ _ | refine Below.alloc ?_ (by simp) _ | refine Below.setCell ?_ (by simp) _))).mono ?_; rintro e w9 ⟨A9, n9, c9, rfl, hs9, hb9⟩; have hz9 := hb9.size; (try simp only [World.size_drew] at hz9); (try replace hXA := goesBx.after hXA hb9); replace HL : Below w7.heap.size w7 w9 := (by first | exact seqB HL hb9 | exact seqB HBr.out hb9)
                    refine hK.out _ _ ((Fr.of_below hb9)) ?_
                    clear hK K
                    try simp only [Act.put, List.setIfInBounds_toArray, List.set_cons_zero, List.set_cons_succ]
                    (refine regf_take 7 (v := ?_) (by rfl) (by kernel_rfl) (by kernel_rfl) (by kernel_rfl) (by exact fun _ _ _ h => h) (by rfl) ?_ ?_; rotate_left; focus (intro w hSw; go_simp; try with_reducible rfl))
                    simp only [Act.put, List.setIfInBounds_toArray, List.set_cons_zero, List.set_cons_succ]
                    (refine regf_take 8 (v := ?_) (by rfl) (by kernel_rfl) (by kernel_rfl) (by kernel_rfl) (by exact fun _ _ _ h => h) (by rfl) ?_ ?_; rotate_left; focus (intro w hSw; go_simp; try with_reducible rfl))
                    simp only [Act.put, List.setIfInBounds_toArray, List.set_cons_zero, List.set_cons_succ]
                    (refine regf_take 9 (v := ?_) (by rfl) (by kernel_rfl) (by kernel_rfl) (by kernel_rfl) (by exact fun _ _ _ h => h) (by rfl) ?_ ?_; rotate_left; focus (intro w hSw; go_simp; try with_reducible rfl))
                    simp only [Act.put, List.setIfInBounds_toArray, List.set_cons_zero, List.set_cons_succ]
                    refine regf_call 10 (by kernel_rfl) (by rfl) (fun K hK => ?_)
                    go_simp
                    (first | refine abs_cells (F := K _) ?_ | refine abs_cellsd (F := K _) ?_); intro wA hBA hXA; have hzA := hBA.size; (try simp only [World.size_drew] at hzA); replace HL : Below w7.heap.size w7 wA := (by first | exact seqB HL hBA | exact seqB HBr.out hBA); (try replace hs9 := goesSl.after hs9 hBA); (try have hBA2 : Below wr.heap.size wr wA := (by first | exact hBA | exact below_undrew hBA))
                    refine hK.out _ _ ((by first | exact Fr.of_below hBA | exact Fr.of_below (below_undrew hBA))) ?_
                    clear hK K
                    try simp only [Act.put, List.setIfInBounds_toArray, List.set_cons_zero, List.set_cons_succ]
                    refine regf_call 11 (by kernel_rfl) (by rfl) (fun K hK => ?_)
                    refine step_storeB hXA (by rfl) 26 _ _ (by rfl) 0 [.int .i64 2, .slice A9 n9 c9] (by rfl) (by rfl) (by kernel_rfl) (by show 0 + 2 ≤ 2; decide) (by rfl) ?_; intro wz hxz hgz
                    refine hK.out _ _ ((Fr.of_one hgz (by show wr.heap.size ≤ _; omega))) ?_
                    clear hK K
                    try simp only [Act.put, List.setIfInBounds_toArray, List.set_cons_zero, List.set_cons_succ]
                    (refine regf_take 12 (v := ?_) (by rfl) (by kernel_rfl) (by kernel_rfl) (by kernel_rfl) (by exact fun _ _ _ h => h) (by rfl) ?_ ?_; rotate_left; focus (intro w hSw; go_simp; try with_reducible rfl))
                    simp only [Act.put, List.setIfInBounds_toArray, List.set_cons_zero, List.set_cons_succ]
                    refine wpAnyH_done (by kernel_rfl) ?_ _
                  rotate_left 1
                  focus
                    go_simp
                    (first | refine abs_cells (F := K _) ?_ | refine abs_cellsd (F := K _) ?_); intro wA hBA hXA; have hzA := hBA.size; (try simp only [World.size_drew] at hzA); replace HL : Below w7.heap.size w7 wA := (by first | exact seqB HL hBA | exact seqB HBr.out hBA); (try replace hs9 := goesSl.after hs9 hBA); (try have hBA2 : Below wr.heap.size wr wA := (by first | exact hBA | exact below_undrew hBA))
                    refine hK.out _ _ ((by first | exact Fr.of_below hBA | exact Fr.of_below (below_undrew hBA))) ?_
                    clear hK K
                    try simp only [Act.put, List.setIfInBounds_toArray, List.set_cons_zero, List.set_cons_succ]
                    refine regf_call 6 (by kernel_rfl) (by rfl) (fun K hK => ?_)
                    go_simp
                    go_at_call 19; refine (HCALL.out _ (by repeat (first | exact Below.refl _ _ | exact below_undrew (Below.refl _ _) | assumption | refine Below.drew ?_ | refine below_drewN ?_ _ | refine Below.alloc ?_ (by simp) _ | refine Below.setCell ?_ (by simp) _))).mono ?_; rintro e w9 ⟨A9, n9, c9, rfl, hs9, hb9⟩; have hz9 := hb9.size; (try simp only [World.size_drew] at hz9); (try replace hXA := goesBx.after hXA hb9); replace HL : Below w7.heap.size w7 w9 := (by first | exact seqB HL hb9 | exact seqB HBr.out hb9)
                    refine hK.out _ _ ((Fr.of_below hb9)) ?_
                    clear hK K
                    try simp only [Act.put, List.setIfInBounds_toArray, List.set_cons_zero, List.set_cons_succ]
                    (refine regf_take 7 (v := ?_) (by rfl) (by kernel_rfl) (by kernel_rfl) (by kernel_rfl) (by exact fun _ _ _ h => h) (by rfl) ?_ ?_; rotate_left; focus (intro w hSw; go_simp; try with_reducible rfl))
                    simp only [Act.put, List.setIfInBounds_toArray, List.set_cons_zero, List.set_cons_succ]
                    (refine regf_take 8 (v := ?_) (by rfl) (by kernel_rfl) (by kernel_rfl) (by kernel_rfl) (by exact fun _ _ _ h => h) (by rfl) ?_ ?_; rotate_left; focus (intro w hSw; go_simp; try with_reducible rfl))
                    simp only [Act.put, List.setIfInBounds_toArray, List.set_cons_zero, List.set_cons_succ]
                    (refine regf_take 9 (v := ?_) (by rfl) (by kernel_rfl) (by kernel_rfl) (by kernel_rfl) (by exact fun _ _ _ h => h) (by rfl) ?_ ?_; rotate_left; focus (intro w hSw; go_simp; try with_reducible rfl))
                    simp only [Act.put, List.setIfInBounds_toArray, List.set_cons_zero, List.set_cons_succ]
                    refine regf_call 11 (by kernel_rfl) (by rfl) (fun K hK => ?_)
                    refine step_storeB hXA (by rfl) 26 _ _ (by rfl) 0 [.int .i64 2, .slice A9 n9 c9] (by rfl) (by rfl) (by kernel_rfl) (by show 0 + 2 ≤ 2; decide) (by rfl) ?_; intro wz hxz hgz
                    refine hK.out _ _ ((Fr.of_one hgz (by show wr.heap.size ≤ _; omega))) ?_
                    clear hK K
                    try simp only [Act.put, List.setIfInBounds_toArray, List.set_cons_zero, List.set_cons_succ]
                    (refine regf_take 12 (v := ?_) (by rfl) (by kernel_rfl) (by kernel_rfl) (by kernel_rfl) (by exact fun _ _ _ h => h) (by rfl) ?_ ?_; rotate_left; focus (intro w hSw; go_simp; try with_reducible rfl))
                    simp only [Act.put, List.setIfInBounds_toArray, List.set_cons_zero, List.set_cons_succ]
                    refine wpAnyH_done (by kernel_rfl) ?_ _
                  all_goals
                    have HXZ := Lib.hid hxz
                    have HGZ := Lib.hid hgz
                    have HSZ := Lib.hid hs9
                    have HLZ := Lib.hid HL
                    clear hxz hgz hs9 HL hXA
                    go_wp2_with fail
                    go_meet
                    exact ⟨_, A9, n9, c9, rfl, rfl, HXZ.out.c 0 _ rfl, HXZ.out.c 1 _ rfl, goesSl.keep HSZ.out HGZ.out.size (fun b hb hlt => HGZ.out.block b hlt (fun e => by injection e with e; have hb : b < w7.heap.size := hb; omega)), Below.grown1 HLZ.out HGZ.out HLZ.out.size (by omega)⟩
                case rest =>
                  obtain ⟨Q, A9, n9, c9, rfl, rfl, HQ0, HQ1, HSX, HBX⟩ := hcut
                  obtain ⟨wx, hwo⟩ : ∃ wo, wo = wc := ⟨_, rfl⟩
                  subst hwo
                  clear e0 e1 e2 e3 e4 e5 HXr HCALL hk1 hex hT2
                  have hl9 := HSX.out.len
                  simp only [List.length_cons] at hl9
                  have hn9 : n9 = vn + 2 := by have := HVL.out; omega
                  clear hl9
                  have hcap9 := HSX.out.cap
                  have hcm9 := HSX.out.capMax
                  go_upto_region 33 with fail
                  have hdr : Below wx.heap.size wx wx.drew := (Below.refl _ _).drew
                  have HSD := Lib.hid (goesSl.after HSX.out hdr)
                  have HVD := Lib.hid (goesSl.after HV.out ((HB7.out.trans (HBX.out.mono HB7.out.size)).trans (hdr.mono (HB7.out.trans (HBX.out.mono HB7.out.size)).size)))
                  obtain ⟨g1, g2, g3, g4⟩ := HSX.out
                  obtain ⟨b9, o9, rfl, _, _, hcells⟩ := g4 (by simp [bv])
                  have q0 := Aft.each (kcell hdr HQ0.out)
                  have q1 := Aft.each (kcell hdr HQ1.out)
                  have q2' := Aft.each (kcell hdr (hcells 0 (.int .u8 ((UInt8.ofNat k).toNat : Int)) rfl))
                  have q3 := Aft.each (kcell hdr (hcells 1 (.int .u8 ((UInt8.ofNat k2).toNat : Int)) rfl))
                  simp only [Nat.add_zero] at q2'
                  have hu1 : ((UInt8.ofNat k).toNat : Int) = (k : Int) := by simp [UInt8.toNat_ofNat']; omega
                  have hu2 : ((UInt8.ofNat k2).toNat : Int) = (k2 : Int) := by simp [UInt8.toNat_ofNat']; omega
                  rw [hu1] at q2'
                  rw [hu2] at q3
                  have hwk : IntKind.u8.wrap (k : Int) = (k : Int) := HCV1.out k (by omega)
                  have hwk2 : IntKind.u8.wrap (k2 : Int) = (k2 : Int) := HCV1.out k2 (by omega)
                  have hwv : IntKind.i64.wrap ((vn : Int) + 2) = (n9 : Int) := by
                    rw [show ((vn : Int) + 2) = (n9 : Int) by omega]
                    exact wrap_small _ (by omega) (by omega)
                  have hcut9 : ∀ w', (Instr.slice 22 (.slice (some ⟨b9, o9, none⟩) n9 c9) (some (.int .i64 2)) none none).run Tryd.prog w' = .ok (.slice (cutA (some ⟨b9, o9, none⟩) c9 2) (n9 - 2) (c9 - 2)) w' := fun w' => run_cut (some ⟨b9, o9, none⟩) n9 c9 2 .i64 (by omega) w'
                  have hcv : ∀ w', Aft wx.drew w' → (convert 22 9 (.slice (cutA (some ⟨b9, o9, none⟩) c9 2) (n9 - 2) (c9 - 2))).run Tryd.prog w' = .ok (.string (str bs)) w' := fun w' h => conv_sl ((HSD.out.cut 2 (by omega)).after h)
                  have hcw : ∀ w', Aft wx.drew w' → (convert 22 9 (.slice V vn vc)).run Tryd.prog w' = .ok (.string (str bs)) w' := fun w' h => conv_sl (HVD.out.after h)
                  have hp9 : 0 < n9 ∧ 1 < n9 := by omega
                  have hp91 : (1 : Int) < (n9 : Int) := by omega
                  clear g1 g2 g3 g4 hcells hdr hu1 hu2 hn9
                  refine reg_start (by kernel_rfl) ?_
                  (refine reg_take 0 (v := ?_) (by rfl) (by kernel_rfl) (by kernel_rfl) (by kernel_rfl) (by exact fun _ _ _ h => h) (by rfl) ?_ ?_; rotate_left; focus (intro w hSw; go_simp; try with_reducible rfl))
                  simp only [Act.put, List.setIfInBounds_toArray, List.set_cons_zero, List.set_cons_succ]
                  (refine reg_take 1 (v := ?_) (by rfl) (by kernel_rfl) (by kernel_rfl) (by kernel_rfl) (by exact fun _ _ _ h => h) (by rfl) ?_ ?_; rotate_left; focus (intro w hSw; go_simp; try with_reducible rfl))
                  simp only [Act.put, List.setIfInBounds_toArray, List.set_cons_zero, List.set_cons_succ]
                  (refine reg_take 2 (v := ?_) (by rfl) (by kernel_rfl) (by kernel_rfl) (by kernel_rfl) (by exact fun _ _ _ h => h) (by rfl) ?_ ?_; rotate_left; focus (intro w hSw; go_simp; try with_reducible rfl))
                  simp only [Act.put, List.setIfInBounds_toArray, List.set_cons_zero, List.set_cons_succ]
                  first | (refine reg_skip 3 (by rfl) (by kernel_rfl) (by kernel_rfl) (by kernel_rfl) (by exact fun _ _ _ h => h) (by rfl) ?_) | (refine reg_take 3 (v := ?_) (by rfl) (by kernel_rfl) (by kernel_rfl) (by kernel_rfl) (by exact fun _ _ _ h => h) (by rfl) ?_ ?_; rotate_left; focus (intro w hSw; go_simp; try with_reducible rfl))
                  simp only [Act.put, List.setIfInBounds_toArray, List.set_cons_zero, List.set_cons_succ]
                  first | (refine reg_skip 4 (by rfl) (by kernel_rfl) (by kernel_rfl) (by kernel_rfl) (by exact fun _ _ _ h => h) (by rfl) ?_) | (refine reg_take 4 (v := ?_) (by rfl) (by kernel_rfl) (by kernel_rfl) (by kernel_rfl) (by exact fun _ _ _ h => h) (by rfl) ?_ ?_; rotate_left; focus (intro w hSw; go_simp; try with_reducible rfl))
                  simp only [Act.put, List.setIfInBounds_toArray, List.set_cons_zero, List.set_cons_succ]
                  first | (refine reg_skip 5 (by rfl) (by kernel_rfl) (by kernel_rfl) (by kernel_rfl) (by exact fun _ _ _ h => h) (by rfl) ?_) | (refine reg_take 5 (v := ?_) (by rfl) (by kernel_rfl) (by kernel_rfl) (by kernel_rfl) (by exact fun _ _ _ h => h) (by rfl) ?_ ?_; rotate_left; focus (intro w hSw; go_simp; try with_reducible rfl))
                  simp only [Act.put, List.setIfInBounds_toArray, List.set_cons_zero, List.set_cons_succ]
                  (refine reg_take 6 (v := ?_) (by rfl) (by kernel_rfl) (by kernel_rfl) (by kernel_rfl) (by exact fun _ _ _ h => h) (by rfl) ?_ ?_; rotate_left; focus (intro w hSw; go_simp; try with_reducible rfl))
                  simp only [Act.put, List.setIfInBounds_toArray, List.set_cons_zero, List.set_cons_succ]
                  (refine reg_take 7 (v := ?_) (by rfl) (by kernel_rfl) (by kernel_rfl) (by kernel_rfl) (by exact fun _ _ _ h => h) (by rfl) ?_ ?_; rotate_left; focus (intro w hSw; go_simp; try with_reducible rfl))
                  simp only [Act.put, List.setIfInBounds_toArray, List.set_cons_zero, List.set_cons_succ]
                  first | (refine reg_skip 8 (by rfl) (by kernel_rfl) (by kernel_rfl) (by kernel_rfl) (by exact fun _ _ _ h => h) (by rfl) ?_) | (refine reg_take 8 (v := ?_) (by rfl) (by kernel_rfl) (by kernel_rfl) (by kernel_rfl) (by exact fun _ _ _ h => h) (by rfl) ?_ ?_; rotate_left; focus (intro w hSw; go_simp; try with_reducible rfl))
                  simp only [Act.put, List.setIfInBounds_toArray, List.set_cons_zero, List.set_cons_succ]
                  first | (refine reg_skip 9 (by rfl) (by kernel_rfl) (by kernel_rfl) (by kernel_rfl) (by exact fun _ _ _ h => h) (by rfl) ?_) | (refine reg_take 9 (v := ?_) (by rfl) (by kernel_rfl) (by kernel_rfl) (by kernel_rfl) (by exact fun _ _ _ h => h) (by rfl) ?_ ?_; rotate_left; focus (intro w hSw; go_simp; try with_reducible rfl))
                  simp only [Act.put, List.setIfInBounds_toArray, List.set_cons_zero, List.set_cons_succ]
                  first | (refine reg_skip 10 (by rfl) (by kernel_rfl) (by kernel_rfl) (by kernel_rfl) (by exact fun _ _ _ h => h) (by rfl) ?_) | (refine reg_take 10 (v := ?_) (by rfl) (by kernel_rfl) (by kernel_rfl) (by kernel_rfl) (by exact fun _ _ _ h => h) (by rfl) ?_ ?_; rotate_left; focus (intro w hSw; go_simp; try with_reducible rfl))
                  simp only [Act.put, List.setIfInBounds_toArray, List.set_cons_zero, List.set_cons_succ]
                  first | (refine reg_skip 11 (by rfl) (by kernel_rfl) (by kernel_rfl) (by kernel_rfl) (by exact fun _ _ _ h => h) (by rfl) ?_) | (refine reg_take 11 (v := ?_) (by rfl) (by kernel_rfl) (by kernel_rfl) (by kernel_rfl) (by exact fun _ _ _ h => h) (by rfl) ?_ ?_; rotate_left; focus (intro w hSw; go_simp; try with_reducible rfl))
                  simp only [Act.put, List.setIfInBounds_toArray, List.set_cons_zero, List.set_cons_succ]
                  first | (refine reg_skip 12 (by rfl) (by kernel_rfl) (by kernel_rfl) (by kernel_rfl) (by exact fun _ _ _ h => h) (by rfl) ?_) | (refine reg_take 12 (v := ?_) (by rfl) (by kernel_rfl) (by kernel_rfl) (by kernel_rfl) (by exact fun _ _ _ h => h) (by rfl) ?_ ?_; rotate_left; focus (intro w hSw; go_simp; try with_reducible rfl))
                  simp only [Act.put, List.setIfInBounds_toArray, List.set_cons_zero, List.set_cons_succ]
                  first | (refine reg_skip 13 (by rfl) (by kernel_rfl) (by kernel_rfl) (by kernel_rfl) (by exact fun _ _ _ h => h) (by rfl) ?_) | (refine reg_take 13 (v := ?_) (by rfl) (by kernel_rfl) (by kernel_rfl) (by kernel_rfl) (by exact fun _ _ _ h => h) (by rfl) ?_ ?_; rotate_left; focus (intro w hSw; go_simp; try with_reducible rfl))
                  simp only [Act.put, List.setIfInBounds_toArray, List.set_cons_zero, List.set_cons_succ]
                  first | (refine reg_skip 14 (by rfl) (by kernel_rfl) (by kernel_rfl) (by kernel_rfl) (by exact fun _ _ _ h => h) (by rfl) ?_) | (refine reg_take 14 (v := ?_) (by rfl) (by kernel_rfl) (by kernel_rfl) (by kernel_rfl) (by exact fun _ _ _ h => h) (by rfl) ?_ ?_; rotate_left; focus (intro w hSw; go_simp; try with_reducible rfl))
                  simp only [Act.put, List.setIfInBounds_toArray, List.set_cons_zero, List.set_cons_succ]
                  (refine reg_take 15 (v := ?_) (by rfl) (by kernel_rfl) (by kernel_rfl) (by kernel_rfl) (by exact fun _ _ _ h => h) (by rfl) ?_ ?_; rotate_left; focus (intro w hSw; go_simp; try with_reducible rfl))
                  simp only [Act.put, List.setIfInBounds_toArray, List.set_cons_zero, List.set_cons_succ]
                  (refine reg_take 16 (v := ?_) (by rfl) (by kernel_rfl) (by kernel_rfl) (by kernel_rfl) (by exact fun _ _ _ h => h) (by rfl) ?_ ?_; rotate_left; focus (intro w hSw; go_simp; try with_reducible rfl))
                  simp only [Act.put, List.setIfInBounds_toArray, List.set_cons_zero, List.set_cons_succ]
                  first | (refine reg_skip 17 (by rfl) (by kernel_rfl) (by kernel_rfl) (by kernel_rfl) (by exact fun _ _ _ h => h) (by rfl) ?_) | (refine reg_take 17 (v := ?_) (by rfl) (by kernel_rfl) (by kernel_rfl) (by kernel_rfl) (by exact fun _ _ _ h => h) (by rfl) ?_ ?_; rotate_left; focus (intro w hSw; go_simp; try with_reducible rfl))
                  simp only [Act.put, List.setIfInBounds_toArray, List.set_cons_zero, List.set_cons_succ]
                  first | (refine reg_skip 18 (by rfl) (by kernel_rfl) (by kernel_rfl) (by kernel_rfl) (by exact fun _ _ _ h => h) (by rfl) ?_) | (refine reg_take 18 (v := ?_) (by rfl) (by kernel_rfl) (by kernel_rfl) (by kernel_rfl) (by exact fun _ _ _ h => h) (by rfl) ?_ ?_; rotate_left; focus (intro w hSw; go_simp; try with_reducible rfl))
                  simp only [Act.put, List.setIfInBounds_toArray, List.set_cons_zero, List.set_cons_succ]
                  first | (refine reg_skip 19 (by rfl) (by kernel_rfl) (by kernel_rfl) (by kernel_rfl) (by exact fun _ _ _ h => h) (by rfl) ?_) | (refine reg_take 19 (v := ?_) (by rfl) (by kernel_rfl) (by kernel_rfl) (by kernel_rfl) (by exact fun _ _ _ h => h) (by rfl) ?_ ?_; rotate_left; focus (intro w hSw; go_simp; try with_reducible rfl))
                  simp only [Act.put, List.setIfInBounds_toArray, List.set_cons_zero, List.set_cons_succ]
                  first | (refine reg_skip 20 (by rfl) (by kernel_rfl) (by kernel_rfl) (by kernel_rfl) (by exact fun _ _ _ h => h) (by rfl) ?_) | (refine reg_take 20 (v := ?_) (by rfl) (by kernel_rfl) (by kernel_rfl) (by kernel_rfl) (by exact fun _ _ _ h => h) (by rfl) ?_ ?_; rotate_left; focus (intro w hSw; go_simp; try with_reducible rfl))
                  simp only [Act.put, List.setIfInBounds_toArray, List.set_cons_zero, List.set_cons_succ]
                  first | (refine reg_skip 21 (by rfl) (by kernel_rfl) (by kernel_rfl) (by kernel_rfl) (by exact fun _ _ _ h => h) (by rfl) ?_) | (refine reg_take 21 (v := ?_) (by rfl) (by kernel_rfl) (by kernel_rfl) (by kernel_rfl) (by exact fun _ _ _ h => h) (by rfl) ?_ ?_; rotate_left; focus (intro w hSw; go_simp; try with_reducible rfl))
                  simp only [Act.put, List.setIfInBounds_toArray, List.set_cons_zero, List.set_cons_succ]
                  first | (refine reg_skip 22 (by rfl) (by kernel_rfl) (by kernel_rfl) (by kernel_rfl) (by exact fun _ _ _ h => h) (by rfl) ?_) | (refine reg_take 22 (v := ?_) (by rfl) (by kernel_rfl) (by kernel_rfl) (by kernel_rfl) (by exact fun _ _ _ h => h) (by rfl) ?_ ?_; rotate_left; focus (intro w hSw; go_simp; try with_reducible rfl))
                  simp only [Act.put, List.setIfInBounds_toArray, List.set_cons_zero, List.set_cons_succ]
                  first | (refine reg_skip 23 (by rfl) (by kernel_rfl) (by kernel_rfl) (by kernel_rfl) (by exact fun _ _ _ h => h) (by rfl) ?_) | (refine reg_take 23 (v := ?_) (by rfl) (by kernel_rfl) (by kernel_rfl) (by kernel_rfl) (by exact fun _ _ _ h => h) (by rfl) ?_ ?_; rotate_left; focus (intro w hSw; go_simp; try with_reducible rfl))
                  simp only [Act.put, List.setIfInBounds_toArray, List.set_cons_zero, List.set_cons_succ]
                  (refine reg_take 24 (v := ?_) (by rfl) (by kernel_rfl) (by kernel_rfl) (by kernel_rfl) (by exact fun _ _ _ h => h) (by rfl) ?_ ?_; rotate_left; focus (intro w hSw; go_simp; try with_reducible rfl))
                  simp only [Act.put, List.setIfInBounds_toArray, List.set_cons_zero, List.set_cons_succ]
                  (refine reg_take 25 (v := ?_) (by rfl) (by kernel_rfl) (by kernel_rfl) (by kernel_rfl) (by exact fun _ _ _ h => h) (by rfl) ?_ ?_; rotate_left; focus (intro w hSw; go_simp; try with_reducible rfl))
                  simp only [Act.put, List.setIfInBounds_toArray, List.set_cons_zero, List.set_cons_succ]
                  first | (refine reg_skip 26 (by rfl) (by kernel_rfl) (by kernel_rfl) (by kernel_rfl) (by exact fun _ _ _ h => h) (by rfl) ?_) | (refine reg_take 26 (v := ?_) (by rfl) (by kernel_rfl) (by kernel_rfl) (by kernel_rfl) (by exact fun _ _ _ h => h) (by rfl) ?_ ?_; rotate_left; focus (intro w hSw; go_simp; try with_reducible rfl))
                  simp only [Act.put, List.setIfInBounds_toArray, List.set_cons_zero, List.set_cons_succ]
                  first | (refine reg_skip 27 (by rfl) (by kernel_rfl) (by kernel_rfl) (by kernel_rfl) (by exact fun _ _ _ h => h) (by rfl) ?_) | (refine reg_take 27 (v := ?_) (by rfl) (by kernel_rfl) (by kernel_rfl) (by kernel_rfl) (by exact fun _ _ _ h => h) (by rfl) ?_ ?_; rotate_left; focus (intro w hSw; go_simp; try with_reducible rfl))
                  simp only [Act.put, List.setIfInBounds_toArray, List.set_cons_zero, List.set_cons_succ]
                  first | (refine reg_skip 28 (by rfl) (by kernel_rfl) (by kernel_rfl) (by kernel_rfl) (by exact fun _ _ _ h => h) (by rfl) ?_) | (refine reg_take 28 (v := ?_) (by rfl) (by kernel_rfl) (by kernel_rfl) (by kernel_rfl) (by exact fun _ _ _ h => h) (by rfl) ?_ ?_; rotate_left; focus (intro w hSw; go_simp; try with_reducible rfl))
                  simp only [Act.put, List.setIfInBounds_toArray, List.set_cons_zero, List.set_cons_succ]
                  first | (refine reg_skip 29 (by rfl) (by kernel_rfl) (by kernel_rfl) (by kernel_rfl) (by exact fun _ _ _ h => h) (by rfl) ?_) | (refine reg_take 29 (v := ?_) (by rfl) (by kernel_rfl) (by kernel_rfl) (by kernel_rfl) (by exact fun _ _ _ h => h) (by rfl) ?_ ?_; rotate_left; focus (intro w hSw; go_simp; try with_reducible rfl))
                  simp only [Act.put, List.setIfInBounds_toArray, List.set_cons_zero, List.set_cons_succ]
                  first | (refine reg_skip 30 (by rfl) (by kernel_rfl) (by kernel_rfl) (by kernel_rfl) (by exact fun _ _ _ h => h) (by rfl) ?_) | (refine reg_take 30 (v := ?_) (by rfl) (by kernel_rfl) (by kernel_rfl) (by kernel_rfl) (by exact fun _ _ _ h => h) (by rfl) ?_ ?_; rotate_left; focus (intro w hSw; go_simp; try with_reducible rfl))
                  simp only [Act.put, List.setIfInBounds_toArray, List.set_cons_zero, List.set_cons_succ]
                  first | (refine reg_skip 31 (by rfl) (by kernel_rfl) (by kernel_rfl) (by kernel_rfl) (by exact fun _ _ _ h => h) (by rfl) ?_) | (refine reg_take 31 (v := ?_) (by rfl) (by kernel_rfl) (by kernel_rfl) (by kernel_rfl) (by exact fun _ _ _ h => h) (by rfl) ?_ ?_; rotate_left; focus (intro w hSw; go_simp; try with_reducible rfl))
                  simp only [Act.put, List.setIfInBounds_toArray, List.set_cons_zero, List.set_cons_succ]
                  first | (refine reg_skip 32 (by rfl) (by kernel_rfl) (by kernel_rfl) (by kernel_rfl) (by exact fun _ _ _ h => h) (by rfl) ?_) | (refine reg_take 32 (v := ?_) (by rfl) (by kernel_rfl) (by kernel_rfl) (by kernel_rfl) (by exact fun _ _ _ h => h) (by rfl) ?_ ?_; rotate_left; focus (intro w hSw; go_simp; try with_reducible rfl))
                  simp only [Act.put, List.setIfInBounds_toArray, List.set_cons_zero, List.set_cons_succ]
                  (refine reg_take 33 (v := ?_) (by rfl) (by kernel_rfl) (by kernel_rfl) (by kernel_rfl) (by exact fun _ _ _ h => h) (by rfl) ?_ ?_; rotate_left; focus (intro w hSw; go_simp; try with_reducible rfl))
                  simp only [Act.put, List.setIfInBounds_toArray, List.set_cons_zero, List.set_cons_succ]
                  (refine reg_take 34 (v := ?_) (by rfl) (by kernel_rfl) (by kernel_rfl) (by kernel_rfl) (by exact fun _ _ _ h => h) (by rfl) ?_ ?_; rotate_left; focus (intro w hSw; go_simp; try with_reducible rfl))
                  simp only [Act.put, List.setIfInBounds_toArray, List.set_cons_zero, List.set_cons_succ]
                  first | (refine reg_skip 35 (by rfl) (by kernel_rfl) (by kernel_rfl) (by kernel_rfl) (by exact fun _ _ _ h => h) (by rfl) ?_) | (refine reg_take 35 (v := ?_) (by rfl) (by kernel_rfl) (by kernel_rfl) (by kernel_rfl) (by exact fun _ _ _ h => h) (by rfl) ?_ ?_; rotate_left; focus (intro w hSw; go_simp; try with_reducible rfl))
                  simp only [Act.put, List.setIfInBounds_toArray, List.set_cons_zero, List.set_cons_succ]
                  first | (refine reg_skip 36 (by rfl) (by kernel_rfl) (by kernel_rfl) (by kernel_rfl) (by exact fun _ _ _ h => h) (by rfl) ?_) | (refine reg_take 36 (v := ?_) (by rfl) (by kernel_rfl) (by kernel_rfl) (by kernel_rfl) (by exact fun _ _ _ h => h) (by rfl) ?_ ?_; rotate_left; focus (intro w hSw; go_simp; try with_reducible rfl))
                  simp only [Act.put, List.setIfInBounds_toArray, List.set_cons_zero, List.set_cons_succ]
                  first | (refine reg_skip 37 (by rfl) (by kernel_rfl) (by kernel_rfl) (by kernel_rfl) (by exact fun _ _ _ h => h) (by rfl) ?_) | (refine reg_take 37 (v := ?_) (by rfl) (by kernel_rfl) (by kernel_rfl) (by kernel_rfl) (by exact fun _ _ _ h => h) (by rfl) ?_ ?_; rotate_left; focus (intro w hSw; go_simp; try with_reducible rfl))
                  simp only [Act.put, List.setIfInBounds_toArray, List.set_cons_zero, List.set_cons_succ]
                  first | (refine reg_skip 38 (by rfl) (by kernel_rfl) (by kernel_rfl) (by kernel_rfl) (by exact fun _ _ _ h => h) (by rfl) ?_) | (refine reg_take 38 (v := ?_) (by rfl) (by kernel_rfl) (by kernel_rfl) (by kernel_rfl) (by exact fun _ _ _ h => h) (by rfl) ?_ ?_; rotate_left; focus (intro w hSw; go_simp; try with_reducible rfl))
                  simp only [Act.put, List.setIfInBounds_toArray, List.set_cons_zero, List.set_cons_succ]
                  first | (refine reg_skip 39 (by rfl) (by kernel_rfl) (by kernel_rfl) (by kernel_rfl) (by exact fun _ _ _ h => h) (by rfl) ?_) | (refine reg_take 39 (v := ?_) (by rfl) (by kernel_rfl) (by kernel_rfl) (by kernel_rfl) (by exact fun _ _ _ h => h) (by rfl) ?_ ?_; rotate_left; focus (intro w hSw; go_simp; try with_reducible rfl))
                  simp only [Act.put, List.setIfInBounds_toArray, List.set_cons_zero, List.set_cons_succ]
                  first | (refine reg_skip 40 (by rfl) (by kernel_rfl) (by kernel_rfl) (by kernel_rfl) (by exact fun _ _ _ h => h) (by rfl) ?_) | (refine reg_take 40 (v := ?_) (by rfl) (by kernel_rfl) (by kernel_rfl) (by kernel_rfl) (by exact fun _ _ _ h => h) (by rfl) ?_ ?_; rotate_left; focus (intro w hSw; go_simp; try with_reducible rfl))
                  simp only [Act.put, List.setIfInBounds_toArray, List.set_cons_zero, List.set_cons_succ]
                  first | (refine reg_skip 41 (by rfl) (by kernel_rfl) (by kernel_rfl) (by kernel_rfl) (by exact fun _ _ _ h => h) (by rfl) ?_) | (refine reg_take 41 (v := ?_) (by rfl) (by kernel_rfl) (by kernel_rfl) (by kernel_rfl) (by exact fun _ _ _ h => h) (by rfl) ?_ ?_; rotate_left; focus (intro w hSw; go_simp; try with_reducible rfl))
                  simp only [Act.put, List.setIfInBounds_toArray, List.set_cons_zero, List.set_cons_succ]
                  (refine reg_take 42 (v := ?_) (by rfl) (by kernel_rfl) (by kernel_rfl) (by kernel_rfl) (by exact fun _ _ _ h => h) (by rfl) ?_ ?_; rotate_left; focus (intro w hSw; go_simp; try with_reducible rfl))
                  simp only [Act.put, List.setIfInBounds_toArray, List.set_cons_zero, List.set_cons_succ]
                  refine wpAnyH_done (by kernel_rfl) ?_ _
                  go_wp2_with fail
                  exact ⟨⟨k2 + 1, by omega, by go_num, by first | exact Lib.hid HBX.out.drew | exact HBX⟩, by simp [intOf]; omega⟩
              · obtain rfl : n = k2 := by omega
                go_wp2_with fail
                exact ⟨⟨k + 1, by omega, by go_num, HBr⟩, by simp [intOf]; omega⟩
          · obtain rfl : m = k := by omega
            go_wp2_with fail
            go_ret
            exact ⟨rfl, HB7.out.trans (HBk.out.mono HB7.out.size)⟩
end Go.Proofs.Sb
