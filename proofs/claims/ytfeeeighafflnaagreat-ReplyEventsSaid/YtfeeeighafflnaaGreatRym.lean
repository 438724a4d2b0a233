/- The walk over signalboxref09.Same at two that read the same: true. Conditions: none. (written by gen_rym.py) -/
import Derived.Test.YtfeeeighafflnaaGreatRyc
import Derived.Test.YtfeeeighafflnaaGreatSame
import Derived.Test.YtfeeeighafflnaaGreatLawcp
set_option linter.unusedVariables false
set_option linter.unusedSimpArgs false
namespace Go.Proofs.Sb
open Go.RowKit _root_.Sb
set_option maxHeartbeats 8000000 in
set_option maxRecDepth 100000 in
theorem same9_any {S S' : Nat → Prop} {w : World} {x : Rf} {t t' : Tfs} (h1 : RfR S w x t) (h2 : RfR S' w x t') :
    Calls Tryz.prog 12 #[.agg (rfV x t).toArray, .agg (rfV x t').toArray] w fun e w' => e = .returned (.bool true) ∧ Below w.heap.size w w' := by
  have HS := Lib.hid h1; clear h1
  have HS' := Lib.hid h2; clear h2
  obtain ⟨V1, hV1⟩ : ∃ V1, V1 = rfV x t := ⟨_, rfl⟩
  obtain ⟨V2, hV2⟩ : ∃ V2, V2 = rfV x t' := ⟨_, rfl⟩
  rw [← hV1, ← hV2]
  have HV1 := Lib.hid hV1; clear hV1
  have HV2 := Lib.hid hV2; clear hV2
  go_enter Tryz.func12, Tryz.ntmps12
  go_upto_region 1 with fail
  obtain ⟨w2, hw2⟩ : ∃ w2, w2 = (w.alloc (.cells V1.toArray 54)).alloc (.cells V2.toArray 54) := ⟨_, rfl⟩
  rw [← hw2]
  have hB2 : Below w.heap.size w w2 := by rw [hw2]; exact ((Below.refl _ _).alloc (Nat.le_refl _) _).alloc (by simp) _
  have HBR : Hid (Bx (fun b => b = w.heap.size) w2 w.heap.size V1) := Lib.hid (by
    rw [hw2]
    exact goesBx.after (Bx.alloc w V1.toArray 54 (S := fun b => b = w.heap.size) rfl rfl) ((Below.refl _ _).alloc (Nat.le_refl _) _))
  have HBZ : Hid (Bx (fun b => b = w.heap.size + 1) w2 (w.heap.size + 1) V2) := Lib.hid (by
    rw [hw2]
    exact Bx.alloc (w.alloc _) V2.toArray 54 (S := fun b => b = w.heap.size + 1) (by simp) (by simp))
  have HB2 := Lib.hid hB2; clear hB2 hw2
  have k11 := HBR.out.c 11 _ (show V1[11]? = some (.slice t.fa.a t.fa.n t.fa.c) by rw [HV1.out]; rfl)
  have j11 := HBZ.out.c 11 _ (show V2[11]? = some (.slice t'.fa.a t'.fa.n t'.fa.c) by rw [HV2.out]; rfl)
  go_wp2_with fail
  refine (same_any (goesRf.after HS.out HB2.out).fa (goesRf.after HS'.out HB2.out).fa).mono ?_
  rintro e w3 ⟨rfl, hb3⟩
  have HBR3 := Lib.hid (goesBx.after HBR.out hb3)
  have HBZ3 := Lib.hid (goesBx.after HBZ.out hb3)
  have HB3 := Lib.hid (HB2.out.trans (hb3.mono HB2.out.size))
  clear hb3 k11 j11
  have k13 := HBR3.out.c 13 _ (show V1[13]? = some (.slice t.su.a t.su.n t.su.c) by rw [HV1.out]; rfl)
  have j13 := HBZ3.out.c 13 _ (show V2[13]? = some (.slice t'.su.a t'.su.n t'.su.c) by rw [HV2.out]; rfl)
  go_wp2_with fail
  refine (same_any (goesRf.after HS.out HB3.out).su (goesRf.after HS'.out HB3.out).su).mono ?_
  rintro e w4 ⟨rfl, hb4⟩
  have HBR4 := Lib.hid (goesBx.after HBR3.out hb4)
  have HBZ4 := Lib.hid (goesBx.after HBZ3.out hb4)
  have HB4 := Lib.hid (HB3.out.trans (hb4.mono HB3.out.size))
  clear hb4 k13 j13
  have k24 := HBR4.out.c 24 _ (show V1[24]? = some (.slice t.cg.a t.cg.n t.cg.c) by rw [HV1.out]; rfl)
  have j24 := HBZ4.out.c 24 _ (show V2[24]? = some (.slice t'.cg.a t'.cg.n t'.cg.c) by rw [HV2.out]; rfl)
  go_wp2_with fail
  refine (same_any (goesRf.after HS.out HB4.out).cg (goesRf.after HS'.out HB4.out).cg).mono ?_
  rintro e w5 ⟨rfl, hb5⟩
  have HBR5 := Lib.hid (goesBx.after HBR4.out hb5)
  have HBZ5 := Lib.hid (goesBx.after HBZ4.out hb5)
  have HB5 := Lib.hid (HB4.out.trans (hb5.mono HB4.out.size))
  clear hb5 k24 j24
  have hlt2 : w.heap.size + 1 < w5.heap.size := HBZ5.out.lt
  have k0 := HBR5.out.c 0 _ (show V1[0]? = some (.int .u8 ((x.opcode : Nat) : Int)) by rw [HV1.out]; rfl)
  have j0 := HBZ5.out.c 0 _ (show V2[0]? = some (.int .u8 ((x.opcode : Nat) : Int)) by rw [HV2.out]; rfl)
  have k1 := HBR5.out.c 1 _ (show V1[1]? = some (.int .u32 ((x.code : Nat) : Int)) by rw [HV1.out]; rfl)
  have j1 := HBZ5.out.c 1 _ (show V2[1]? = some (.int .u32 ((x.code : Nat) : Int)) by rw [HV2.out]; rfl)
  have k2 := HBR5.out.c 2 _ (show V1[2]? = some (.string (str x.text)) by rw [HV1.out]; rfl)
  have j2 := HBZ5.out.c 2 _ (show V2[2]? = some (.string (str x.text)) by rw [HV2.out]; rfl)
  have k3 := HBR5.out.c 3 _ (show V1[3]? = some (.int .u16 ((x.level : Nat) : Int)) by rw [HV1.out]; rfl)
  have j3 := HBZ5.out.c 3 _ (show V2[3]? = some (.int .u16 ((x.level : Nat) : Int)) by rw [HV2.out]; rfl)
  have k4 := HBR5.out.c 4 _ (show V1[4]? = some (.int .i32 x.received) by rw [HV1.out]; rfl)
  have j4 := HBZ5.out.c 4 _ (show V2[4]? = some (.int .i32 x.received) by rw [HV2.out]; rfl)
  have k5 := HBR5.out.c 5 _ (show V1[5]? = some (.int .i32 x.needed) by rw [HV1.out]; rfl)
  have j5 := HBZ5.out.c 5 _ (show V2[5]? = some (.int .i32 x.needed) by rw [HV2.out]; rfl)
  have k6 := HBR5.out.c 6 _ (show V1[6]? = some (.int .i32 x.failures) by rw [HV1.out]; rfl)
  have j6 := HBZ5.out.c 6 _ (show V2[6]? = some (.int .i32 x.failures) by rw [HV2.out]; rfl)
  have k7 := HBR5.out.c 7 _ (show V1[7]? = some (.int .u8 ((x.data : Nat) : Int)) by rw [HV1.out]; rfl)
  have j7 := HBZ5.out.c 7 _ (show V2[7]? = some (.int .u8 ((x.data : Nat) : Int)) by rw [HV2.out]; rfl)
  have k8 := HBR5.out.c 8 _ (show V1[8]? = some (.string (str x.write)) by rw [HV1.out]; rfl)
  have j8 := HBZ5.out.c 8 _ (show V2[8]? = some (.string (str x.write)) by rw [HV2.out]; rfl)
  have k9 := HBR5.out.c 9 _ (show V1[9]? = some (.string (str x.space)) by rw [HV1.out]; rfl)
  have j9 := HBZ5.out.c 9 _ (show V2[9]? = some (.string (str x.space)) by rw [HV2.out]; rfl)
  have k10 := HBR5.out.c 10 _ (show V1[10]? = some (.string (str x.name)) by rw [HV1.out]; rfl)
  have j10 := HBZ5.out.c 10 _ (show V2[10]? = some (.string (str x.name)) by rw [HV2.out]; rfl)
  have k12 := HBR5.out.c 12 _ (show V1[12]? = some (.string (str x.ident)) by rw [HV1.out]; rfl)
  have j12 := HBZ5.out.c 12 _ (show V2[12]? = some (.string (str x.ident)) by rw [HV2.out]; rfl)
  have k14 := HBR5.out.c 14 _ (show V1[14]? = some (.int .i64 x.token.kind) by rw [HV1.out]; rfl)
  have j14 := HBZ5.out.c 14 _ (show V2[14]? = some (.int .i64 x.token.kind) by rw [HV2.out]; rfl)
  have k15 := HBR5.out.c 15 _ (show V1[15]? = some (.string (str x.token.bytes)) by rw [HV1.out]; rfl)
  have j15 := HBZ5.out.c 15 _ (show V2[15]? = some (.string (str x.token.bytes)) by rw [HV2.out]; rfl)
  have k16 := HBR5.out.c 16 _ (show V1[16]? = some (.string (str x.event)) by rw [HV1.out]; rfl)
  have j16 := HBZ5.out.c 16 _ (show V2[16]? = some (.string (str x.event)) by rw [HV2.out]; rfl)
  have k17 := HBR5.out.c 17 _ (show V1[17]? = some (.string (str x.what)) by rw [HV1.out]; rfl)
  have j17 := HBZ5.out.c 17 _ (show V2[17]? = some (.string (str x.what)) by rw [HV2.out]; rfl)
  have k18 := HBR5.out.c 18 _ (show V1[18]? = some (.string (str x.addr.addr)) by rw [HV1.out]; rfl)
  have j18 := HBZ5.out.c 18 _ (show V2[18]? = some (.string (str x.addr.addr)) by rw [HV2.out]; rfl)
  have k19 := HBR5.out.c 19 _ (show V1[19]? = some (.int .u32 ((x.addr.port : Nat) : Int)) by rw [HV1.out]; rfl)
  have j19 := HBZ5.out.c 19 _ (show V2[19]? = some (.int .u32 ((x.addr.port : Nat) : Int)) by rw [HV2.out]; rfl)
  have k20 := HBR5.out.c 20 _ (show V1[20]? = some (.string (str x.change.what)) by rw [HV1.out]; rfl)
  have j20 := HBZ5.out.c 20 _ (show V2[20]? = some (.string (str x.change.what)) by rw [HV2.out]; rfl)
  have k21 := HBR5.out.c 21 _ (show V1[21]? = some (.string (str x.change.target)) by rw [HV1.out]; rfl)
  have j21 := HBZ5.out.c 21 _ (show V2[21]? = some (.string (str x.change.target)) by rw [HV2.out]; rfl)
  have k22 := HBR5.out.c 22 _ (show V1[22]? = some (.string (str x.change.space)) by rw [HV1.out]; rfl)
  have j22 := HBZ5.out.c 22 _ (show V2[22]? = some (.string (str x.change.space)) by rw [HV2.out]; rfl)
  have k23 := HBR5.out.c 23 _ (show V1[23]? = some (.string (str x.change.name)) by rw [HV1.out]; rfl)
  have j23 := HBZ5.out.c 23 _ (show V2[23]? = some (.string (str x.change.name)) by rw [HV2.out]; rfl)
  have k25 := HBR5.out.c 25 _ (show V1[25]? = some (.int .u32 ((x.kind : Nat) : Int)) by rw [HV1.out]; rfl)
  have j25 := HBZ5.out.c 25 _ (show V2[25]? = some (.int .u32 ((x.kind : Nat) : Int)) by rw [HV2.out]; rfl)
  have k26 := HBR5.out.c 26 _ (show V1[26]? = some (.string (str x.rest)) by rw [HV1.out]; rfl)
  have j26 := HBZ5.out.c 26 _ (show V2[26]? = some (.string (str x.rest)) by rw [HV2.out]; rfl)
  go_wp2_with fail
  go_ret
  exact ⟨by simp, HB5.out⟩
end Go.Proofs.Sb

/- Walks over signalboxlaw09.texts, multis: rows as the reference has them. Conditions: up to a million. (written by gen_ryn.py) -/
namespace Go.Proofs.Sb
open Go.RowKit _root_.Sb
set_option maxHeartbeats 2000000 in
set_option maxRecDepth 100000 in
theorem ltexts_any {S S2 : Nat → Prop} {A : Option Addr} {n c : Nat} {l : List (B)} {w : World} (hs : Arr 1 (strP) S w A n c l) (hn : n ≤ 1000000) :
    Calls Tryz.prog 17 #[.slice A n c] w fun e w' => ∃ A1 n1 c1, e = .returned (.slice A1 n1 c1) ∧ OwnA 100 5 (itemP (fun _ => False) w) w.heap.size w' A1 n1 c1 (l.map .ofText) ∧ Below w.heap.size w w' := by
  have hlen := Lib.hid hs.len
  have hcap := hs.cap
  have hcm := hs.capMax
  have HS := Lib.hid hs.lt; clear hs
  go_enter Tryz.func17, Tryz.ntmps17
  go_wp2_with fail
  go_loopw [3, 4] (fun o i wr => ∃ k A2 m2 c2, k ≤ n ∧ i = .int .i64 (k : Nat) ∧ o = .slice A2 m2 c2 ∧ OwnA 100 5 (itemP (fun _ => False) w) w.heap.size wr A2 m2 c2 ((l.take k).map .ofText) ∧ Below w.heap.size w wr) (fun _ i _ => n - (intOf i).toNat)
  case atStart => exact ⟨0, none, 0, 0, by omega, rfl, rfl, OwnA.nil, Below.refl _ _⟩
  case round =>
    obtain ⟨k, A2, m2, c2, hk, rfl, rfl, hown, hbel⟩ := hrel
    have hsz := hbel.size
    have hml := hown.len (by decide)
    rw [List.length_map, List.length_take] at hml
    have hmk : m2 ≤ k := by omega
    clear hml
    by_cases hlt : k < n
    · obtain ⟨x, hx⟩ : ∃ x, l[k]? = some x := ⟨_, List.getElem?_eq_getElem (by have := hlen.out; omega)⟩
      have HS1 := Lib.hid (HS.out.after hbel)
      obtain ⟨b, o, rfl, hSb, hbs, HC⟩ := HS1.out.at (by decide) (by omega)
      obtain ⟨v, hv1, hp, hv2⟩ := HC k x hx
      obtain ⟨rfl, hxl⟩ := hp
      have hc0 := hv2 0 _ rfl
      simp only [Nat.mul_one, Nat.add_zero] at hc0
      clear hv1 hv2 HC
      have HX := Lib.hid hx; clear hx
      go_wp2_with (first | (at_builtin; refine wpList_appA rfl tyItem _ _ rfl w.heap.size _ _ _ ((l.take k).map .ofText) rfl (hown.after (by repeat (first | exact Below.refl _ _ | assumption | refine Below.drew ?_ | refine below_drewN ?_ _ | refine Below.alloc ?_ (by first | (simp; done) | omega | (simp; omega)) _ | refine Below.setCell ?_ (by first | (simp; done) | omega | (simp; omega)) _))) _ _ _ _ [.ofText x] rfl (arr_lit (P := itemP (fun _ => False) w) _ #[.string (str x), .string (str []), .slice none 0 0, .int .i64 0, .string (str [])] (.ofText x) rfl ⟨_, _, _, rfl, by simp [Thing.ofText]; omega, by simp [Thing.ofText], by simp [Thing.ofText, Val.none], Arr.nil⟩ (by simp)) itemP_one (fun _ _ _ h => h) (by omega) (by unfold maxLen; omega) (by simp; omega) ?_; intro A4 m4 c4 w3 hown3 hg3 hwh3))
      go_roundw
      case rel =>
        refine ⟨k + 1, _, _, _, by omega, by go_num, rfl, ?_, ?_⟩
        · rw [tms Thing.ofText HX.out]
          exact hown3
        · exact Below.grown (by repeat (first | exact Below.refl _ _ | assumption | refine Below.drew ?_ | refine below_drewN ?_ _ | refine Below.alloc ?_ (by first | (simp; done) | omega | (simp; omega)) _ | refine Below.setCell ?_ (by first | (simp; done) | omega | (simp; omega)) _)) hg3 (by simp; omega) fun b e => (hown.block b e).1
      case measure => simp [intOf]; omega
    · obtain rfl : k = n := by omega
      go_wp2_with fail
      go_ret
      have h0 : l.take k = l := List.take_of_length_le (by have := hlen.out; omega)
      rw [h0] at hown
      exact ⟨_, _, _, rfl, hown, hbel⟩

set_option maxHeartbeats 2000000 in
set_option maxRecDepth 100000 in
theorem lmultis_any {S S2 : Nat → Prop} {A : Option Addr} {n c : Nat} {l : List (B × List B)} {w : World} (hs : Arr 2 (multiP S2 w) S w A n c l) (hv0 : ∀ x ∈ l, x.2.length ≤ 1000000) (hn : n ≤ 1000000) :
    Calls Tryz.prog 18 #[.slice A n c] w fun e w' => ∃ A1 n1 c1, e = .returned (.slice A1 n1 c1) ∧ OwnA 100 5 (itemP (fun b => w.heap.size ≤ b ∧ A1.map (·.block) ≠ some b) w') w.heap.size w' A1 n1 c1 (l.map .ofMulti) ∧ Below w.heap.size w w' := by
  have hlen := Lib.hid hs.len
  have hcap := hs.cap
  have hcm := hs.capMax
  have HS := Lib.hid hs.lt; clear hs
  go_enter Tryz.func18, Tryz.ntmps18
  go_wp2_with fail
  go_loopw [3, 4, 5] (fun o i _ wr => ∃ k A2 m2 c2, k ≤ n ∧ i = .int .i64 (k : Nat) ∧ o = .slice A2 m2 c2 ∧ OwnA 100 5 (itemP (fun b => w.heap.size ≤ b ∧ A2.map (·.block) ≠ some b) wr) w.heap.size wr A2 m2 c2 ((l.take k).map .ofMulti) ∧ Below w.heap.size w wr) (fun _ i _ _ => n - (intOf i).toNat)
  case atStart => exact ⟨0, none, 0, 0, by omega, rfl, rfl, OwnA.nil, Below.refl _ _⟩
  case round =>
    obtain ⟨k, A2, m2, c2, hk, rfl, rfl, hown, hbel⟩ := hrel
    have hsz := hbel.size
    have hml := hown.len (by decide)
    rw [List.length_map, List.length_take] at hml
    have hmk : m2 ≤ k := by omega
    clear hml
    by_cases hlt : k < n
    · obtain ⟨x, hx⟩ : ∃ x, l[k]? = some x := ⟨_, List.getElem?_eq_getElem (by have := hlen.out; omega)⟩
      have HS1 := Lib.hid (HS.out.after hbel)
      obtain ⟨b, o, rfl, hSb, hbs, HC⟩ := HS1.out.at (by decide) (by omega)
      obtain ⟨v, hv1, hp, hv2⟩ := HC k x hx
      obtain ⟨A9, n9, c9, rfl, hxl, hal⟩ := hp
      have hvl : n9 ≤ 1000000 := by have := hv0 x (List.mem_of_getElem? hx); have := hal.len; omega
      have HAL := Lib.hid ((hal.lt.after hbel).after (Below.refl _ wr)); clear hal
      have hc0 := hv2 0 _ rfl
      have hc1 := hv2 1 _ rfl
      simp only [Nat.add_zero] at hc0
      clear hv1 hv2 HC
      have HX := Lib.hid hx; clear hx
      have HV0 := Lib.hid hv0; clear hv0
      go_wp2_with (first | (at_builtin; refine wpList_appA rfl tyStr _ _ rfl wr.heap.size none 0 0 ([] : List B) rfl OwnA.nil _ A9 n9 c9 x.2 rfl (HAL.out.after (by repeat (first | exact Below.refl _ _ | assumption | refine Below.drew ?_ | refine below_drewN ?_ _ | refine Below.alloc ?_ (by first | (simp; done) | omega | (simp; omega)) _ | refine Below.setCell ?_ (by first | (simp; done) | omega | (simp; omega)) _))) strP_one (fun _ _ _ h => h) (by omega) (by unfold maxLen; omega) (by first | exact Nat.le_refl _ | (simp; done)) ?_; intro A7 m7 c7 w7 hown7 hg7 hwh7; have hd0 := gcell hg7 (by simp) hc0; clear hc0 hc1; have hz7 := hg7.size) | (at_builtin; refine wpList_appA rfl tyItem _ _ rfl w.heap.size _ _ _ ((l.take k).map .ofMulti) rfl (((hown.imp (P' := itemP (fun b => (w.heap.size ≤ b ∧ A2.map (·.block) ≠ some b) ∧ b < w7.heap.size) w7) fun y _ v h => h.imp fun A n c l h => ((h.lt.grown hg7 (by simp)).mono fun b h1 _ => ⟨h1.1, Nat.lt_of_lt_of_le h1.2 hz7⟩)).after (Below.of_grown hg7 (by simp))).after (by repeat (first | exact Below.refl _ _ | assumption | refine Below.drew ?_ | refine below_drewN ?_ _ | refine Below.alloc ?_ (by first | (simp; done) | omega | (simp; omega)) _ | refine Below.setCell ?_ (by first | (simp; done) | omega | (simp; omega)) _))) _ _ _ _ [.ofMulti x] rfl (arr_lit (P := itemP (fun b => (w.heap.size ≤ b ∧ A2.map (·.block) ≠ some b) ∧ b < w7.heap.size) w7) _ #[.string (str x.1), .string (str []), .slice A7 m7 c7, .int .i64 0, .string (str [])] (.ofMulti x) rfl ⟨_, _, _, rfl, by simp [Thing.ofMulti]; omega, by simp [Thing.ofMulti], by simp [Thing.ofMulti, Val.none], (hown7.arr (by decide)).mono fun b h1 h2 => ⟨⟨by omega, fun e => by have := (hown.block b e).2; omega⟩, h2⟩⟩ (by simp)) itemP_one (fun _ _ _ h => h) (by omega) (by unfold maxLen; omega) (by simp; omega) ?_; intro A4 m4 c4 w3 hown3 hg3 hwh3))
      go_roundw
      case rel =>
        refine ⟨k + 1, _, _, _, by omega, by go_num, rfl, ?_, ?_⟩
        · rw [tms Thing.ofMulti HX.out]
          exact hown3.imp fun y _ v h => h.imp fun A n c l h => ((h.after (by repeat (first | exact Below.refl _ _ | assumption | refine Below.drew ?_ | refine below_drewN ?_ _ | refine Below.alloc ?_ (by first | (simp; done) | omega | (simp; omega)) _ | refine Below.setCell ?_ (by first | (simp; done) | omega | (simp; omega)) _))).grown hg3 (fun b hb e => hb.1.2 e.symm)).mono fun b hb _ => ⟨hb.1.1, fun e => by rcases hwh3 b e with e2 | e2; exact hb.1.2 e2; (have := hb.2; simp at e2; omega)⟩
        · exact Below.grown ((Below.grown hbel hg7 hsz (by simp)).alloc (by omega) _) hg3 (by simp; omega) fun b e => (hown.block b e).1
      case measure => simp [intOf]; omega
    · obtain rfl : k = n := by omega
      go_wp2_with fail
      go_ret
      have h0 : l.take k = l := List.take_of_length_le (by have := hlen.out; omega)
      rw [h0] at hown
      exact ⟨_, _, _, rfl, hown, hbel⟩
end Go.Proofs.Sb
