/- Walks over signalboxref03.Get, kind 2. Conditions: lengths up to 2^47. (written by gen_refget.py) -/
import Derived.Test.YtfeeeighafflnaaGreatRefd
import Derived.Test.YtfeeeighafflnaaGreatArr
set_option linter.unusedVariables false
set_option linter.unusedSimpArgs false
namespace Go.Proofs.Sb
open Go.RowKit _root_.Sb

theorem take_one {α : Type} {l : List α} {j : Nat} {y : α} (h : l[j]? = some y) : l.take (j + 1) = l.take j ++ [y] := by
  obtain ⟨hj, rfl⟩ := List.getElem?_eq_some_iff.1 h
  rw [List.take_succ_eq_append_getElem hj]

set_option maxHeartbeats 2000000 in
set_option maxRecDepth 100000 in
theorem rgeti2_any {S : Nat → Prop} {A : Option Addr} {m c a : Nat} {bs : B} {w : World} (hs : Sl S w A m c bs) (hm : m ≤ 140737488355328) (ha : a ≤ m) (r : Res (List Thing)) (hr : getL (itemR 2) (bs.drop a) = r) :
    Calls Tryz.prog 39 #[.int .i64 2, .slice A m c, .int .i64 (a : Int)] w fun e w' => ∃ A1 n1 c1, ∃ q : Nat, e = .returned (.tuple #[.slice A1 n1 c1, .int .i64 (q : Int), .int .i64 (rerr r)]) ∧ Arr 5 (itemP (fun b => w.heap.size ≤ b) w') (fun b => w.heap.size ≤ b) w' A1 n1 c1 (rval [] r) ∧ AtR bs q r ∧ Below w.heap.size w w' := by
  obtain ⟨r0, hr0⟩ : ∃ r0, getN 2 (bs.drop a) = r0 := ⟨_, rfl⟩
  have hlen := Lib.hid hs.len
  unfold getL at hr
  rw [hr0] at hr
  have HR := Lib.hid hr; clear hr
  have HR0 := Lib.hid hr0; clear hr0
  cases r0 with
  | error e0 =>
    obtain rfl := getN_err HR0.out
    obtain rfl := HR.out
    go_enter Tryz.func39, Tryz.ntmps39
    go_wp2_with fail
    refine (rget_any hs ha (n := 2) (by omega) (by omega) _ HR0.out).mono ?_
    rintro e w1 ⟨q1, rfl, hq1, rfl⟩
    go_wp2_with fail
    go_ret3
    exact ⟨_, _, _, 0, rfl, Arr.nil, AtR.err, Below.refl _ _⟩
  | ok p0 =>
    obtain ⟨n, r1⟩ := p0
    obtain ⟨g1, g2, g3, g4⟩ := getN_ok HR0.out
    simp only [Nat.reducePow] at g4
    clear g2 g3
    have HR2 : Hid (getsM (itemR 2) n r1 = r) := HR
    clear HR
    go_enter Tryz.func39, Tryz.ntmps39
    go_wp2_with fail
    refine (rget_any hs ha (n := 2) (by omega) (by omega) _ HR0.out).mono ?_
    rintro e w1 ⟨q1, rfl, hq1, rfl⟩
    have hq2 := hq1.le
    have hq3 := Lib.hid hq1.drop
    clear hq1
    go_wp2_with fail
    go_loopw [10, 11, 12, 13, 14, 15, 16] (fun u _ o i _ _ _ wr => ∃ (k q : Nat), ∃ A2 m2 c2 xs cur, k ≤ n ∧ i = .int .u64 (k : Nat) ∧ u = .int .i64 (q : Nat) ∧ o = .slice A2 m2 c2 ∧ Hid (getsM (itemR 2) k r1 = .ok (xs, cur)) ∧ q ≤ bs.length ∧ Hid (bs.drop q = cur) ∧ OwnA 100 5 (itemP (fun b => w.heap.size ≤ b ∧ A2.map (·.block) ≠ some b) wr) w.heap.size wr A2 m2 c2 xs ∧ Below w.heap.size w wr) (fun _ _ _ i _ _ _ _ => n - (intOf i).toNat)
    case atStart => exact ⟨0, q1, none, 0, 0, [], r1, by omega, rfl, rfl, rfl, rfl, hq2, hq3, OwnA.nil, Below.refl _ _⟩
    case round =>
      obtain ⟨k, q, A2, m2, c2, xs, cur, hk, rfl, rfl, rfl, HK, hqle, hcur, hown, hbel⟩ := hrel
      have hxl := (getsM_len (ir_len 2) HK).1
      have hsz := hbel.size
      by_cases hlt : k < n
      · obtain ⟨rk, hrk⟩ : ∃ q, getText cur = q := ⟨_, rfl⟩
        have HQK := Lib.hid hrk; clear hrk
        go_wp2_with fail
        refine (rgetText_any (a := q) (hs.after (Below.alloc hbel hsz _)) hm (by have := hlen.out; omega) rk (by rw [hcur.out]; exact HQK.out)).mono ?_
        rintro e w2 ⟨q4, rfl, hq4, rfl⟩
        cases rk with
        | error e2 =>
          have hne := gt_ne HQK.out
          have hit : itemR 2 cur = .error e2 := by unfold itemR; rw [HQK.out]
          obtain rfl := (getsM_stop hlt HK hit).symm.trans HR2.out
          clear hit
          go_wp2_with fail
          go_ret3
          exact ⟨_, _, _, 0, rfl, Arr.nil, AtR.err, (by repeat (first | exact Below.refl _ _ | assumption | refine Below.drew ?_ | refine below_drewN ?_ _ | refine Below.alloc ?_ (by first | (simp; done) | omega | (simp; omega)) _ | refine Below.setCell ?_ (by first | (simp; done) | omega | (simp; omega)) _))⟩
        | ok pk =>
          obtain ⟨yk, r2⟩ := pk
          have hykl := (getText_ok HQK.out).1
          have hq5 := hq4.le
          have hq6 := Lib.hid hq4.drop
          clear hq4
          obtain ⟨wo, hwo⟩ : ∃ wo, wo = wr := ⟨_, rfl⟩
          subst hwo
          obtain ⟨rv, hrv⟩ : ∃ q, getTexts r2 = q := ⟨_, rfl⟩
          have HQV := Lib.hid hrv; clear hrv
          go_wp2_with fail
          refine (rgeti0_any (a := q4) (hs.after (by repeat (first | exact Below.refl _ _ | assumption | refine Below.drew ?_ | refine below_drewN ?_ _ | refine Below.alloc ?_ (by first | (simp; done) | omega | (simp; omega)) _ | refine Below.setCell ?_ (by first | (simp; done) | omega | (simp; omega)) _))) hm (by have := hlen.out; omega) (rmap (List.map .ofText) rv) (by rw [hq6.out, get_texts, HQV.out])).mono ?_
          rintro e w9 ⟨A9, n9, c9, q9, rfl, harr9, hq9, hb9⟩
          obtain ⟨hc9, hf9⟩ := bcell hb9
          have hbel9 : Below w.heap.size w w9 := Below.trans (by repeat (first | exact Below.refl _ _ | assumption | refine Below.drew ?_ | refine below_drewN ?_ _ | refine Below.alloc ?_ (by first | (simp; done) | omega | (simp; omega)) _ | refine Below.setCell ?_ (by first | (simp; done) | omega | (simp; omega)) _)) (hb9.mono (by simp; omega))
          have hbr9 : Below wo.heap.size wo w9 := Below.trans (by repeat (first | exact Below.refl _ _ | assumption | refine Below.drew ?_ | refine below_drewN ?_ _ | refine Below.alloc ?_ (by first | (simp; done) | omega | (simp; omega)) _ | refine Below.setCell ?_ (by first | (simp; done) | omega | (simp; omega)) _)) (hb9.mono (by simp))
          have hz9 : wo.heap.size < w9.heap.size := by (have := hb9.size; simp at this; omega)
          have hre : rerr (rmap (List.map Thing.ofText) rv) = rerr rv ∧ rval [] (rmap (List.map Thing.ofText) rv) = (rval [] rv).map .ofText := by cases rv <;> exact ⟨rfl, rfl⟩
          rw [hre.1] at *
          rw [hre.2] at harr9
          go_wp2_with fail
          go_loopw [16] (fun i wi => ∃ (j : Nat), ∃ A7 m7 c7, j ≤ n9 ∧ i = .int .i64 (j : Nat) ∧ wi.cell? ⟨wo.heap.size, 0, none⟩ = some (.string (str yk)) ∧ wi.cell? ⟨wo.heap.size, 1, none⟩ = some (.string (str [])) ∧ wi.cell? ⟨wo.heap.size, 2, none⟩ = some (.slice A7 m7 c7) ∧ wi.cell? ⟨wo.heap.size, 3, none⟩ = some (.int .i64 0) ∧ wi.cell? ⟨wo.heap.size, 3 + 1, none⟩ = some (.string (str [])) ∧
              wi.frozen? ⟨wo.heap.size, 2, none⟩ = false ∧ OwnA 9 1 strP w9.heap.size wi A7 m7 c7 ((rval [] rv).take j) ∧ w9.grownBy wi (some wo.heap.size)) (fun i _ => n9 - (intOf i).toNat)
          case atStart => exact ⟨0, none, 0, 0, by omega, rfl, by rw [hc9 _ _ (by simp)]; go_simp, by rw [hc9 _ _ (by simp)]; go_simp; rfl, by rw [hc9 _ _ (by simp)]; go_simp, by rw [hc9 _ _ (by simp)]; go_simp, by rw [hc9 _ _ (by simp)]; go_simp; rfl, by rw [hf9 _ _ (by simp)]; go_simp, OwnA.nil, World.grownBy.refl _ _⟩
          case round =>
            obtain ⟨j, A7, m7, c7, hj, rfl, x0, x1, x2, x3, x4, xf, hown7, hg7⟩ := hrel
            have hsz7 := hg7.size
            have hl7 := Lib.hid (hown7.len (by decide))
            have hln := Lib.hid harr9.len
            have hcap9 := harr9.cap
            have hcm9 := harr9.capMax
            have hlr := Lib.hid (show n9 ≤ 65535 by have h1 := hln.out; rw [List.length_map] at h1; cases rv with | error e => simp at h1; omega | ok p => have := (getL_len gt_len HQV.out).1; simp at h1; omega)
            by_cases hlj : j < n9
            · obtain ⟨y, hy⟩ : ∃ y, (rval [] rv)[j]? = some y := ⟨_, List.getElem?_eq_getElem (by have := hln.out; simp at this; omega)⟩
              have HS5 := Lib.hid (harr9.grown hg7 (fun b hb e => by injection e with e; simp at hb; omega))
              obtain ⟨b5, o5, rfl, hSb5, hbs5, HC5⟩ := HS5.out.at (by decide) (by omega)
              obtain ⟨v5, hv5, ⟨_, _, _, rfl, hyl, _⟩, hv6⟩ := HC5 j (.ofText y) (by rw [List.getElem?_map, hy]; rfl)
              have hcy := hv6 0 _ rfl
              simp only [Nat.add_zero] at hcy
              clear hv5 hv6 HC5
              have HY := Lib.hid hy; clear hy
              have hXs : wo.heap.size < wr.heap.size := by omega
              have hrow7 : some wo.heap.size ≠ A7.map (·.block) := fun e => by have := (hown7.block _ e.symm).1; omega
              have hm7 : m7 ≤ 65535 := by have h1 := hl7.out; rw [List.length_take] at h1; have := hlr.out; omega
              go_wp2_with fail
              go_region_law ((refine step_appA rfl tyStr _ _ rfl w9.heap.size A7 m7 c7 ((rval [] rv).take j) rfl (hown7.after (by repeat (first | exact Below.refl _ _ | assumption | refine Below.drew ?_ | refine below_drewN ?_ _ | refine Below.alloc ?_ (by simp) _ | refine Below.setCell ?_ (by simp) _))) _ _ _ _ [y] rfl (arr_lit (P := strP) _ #[.string (str y)] y rfl ⟨rfl, hyl⟩ (by simp)) strP_one (fun _ _ _ h => h) (by omega) (by unfold maxLen; omega) (by simp; omega) ?_; intro A8 m8 c8 w8 hown8 hg8 hwh8; have hbl8 : Below wr.heap.size wr w8 ∨ True := Or.inr trivial; have y0 := gcell hg8 hrow7 (kcell (by repeat (first | exact Below.refl _ _ | assumption | refine Below.drew ?_ | refine below_drewN ?_ _ | refine Below.alloc ?_ (by simp) _ | refine Below.setCell ?_ (by simp) _)) x0); have y1 := gcell hg8 hrow7 (kcell (by repeat (first | exact Below.refl _ _ | assumption | refine Below.drew ?_ | refine below_drewN ?_ _ | refine Below.alloc ?_ (by simp) _ | refine Below.setCell ?_ (by simp) _)) x1); have y2 := gcell hg8 hrow7 (kcell (by repeat (first | exact Below.refl _ _ | assumption | refine Below.drew ?_ | refine below_drewN ?_ _ | refine Below.alloc ?_ (by simp) _ | refine Below.setCell ?_ (by simp) _)) x2); have y3 := gcell hg8 hrow7 (kcell (by repeat (first | exact Below.refl _ _ | assumption | refine Below.drew ?_ | refine below_drewN ?_ _ | refine Below.alloc ?_ (by simp) _ | refine Below.setCell ?_ (by simp) _)) x3); have y4 := gcell hg8 hrow7 (kcell (by repeat (first | exact Below.refl _ _ | assumption | refine Below.drew ?_ | refine below_drewN ?_ _ | refine Below.alloc ?_ (by simp) _ | refine Below.setCell ?_ (by simp) _)) x4); have yf := gfroz hg8 hrow7 (by simp; omega) (kfroz (by repeat (first | exact Below.refl _ _ | assumption | refine Below.drew ?_ | refine below_drewN ?_ _ | refine Below.alloc ?_ (by simp) _ | refine Below.setCell ?_ (by simp) _)) hXs xf)))
              all_goals
                go_wp2_with fail
                refine ⟨⟨j + 1, A8, m8, c8, by omega, by go_num, by go_simp, by go_simp, by go_simp, by go_simp, by go_simp, by go_simp, ?_, ?_⟩, by simp [intOf]; omega⟩
                · rw [take_one HY.out]
                  exact hown8.grown (grow_setCell _ _ _ _) fun b e e2 => by have := (hown8.block b e).1; injection e2 with e2; omega
                · exact grow_seq (grow_seq (grow_seq hg7 (row' := none) (grow_of_below (show Below wr.heap.size wr _ from (by repeat (first | exact Below.refl _ _ | assumption | refine Below.drew ?_ | refine below_drewN ?_ _ | refine Below.alloc ?_ (by simp) _ | refine Below.setCell ?_ (by simp) _)))) (fun j e => by cases e)) hg8 (fun b e => .inl (hown7.block b e).1)) (grow_setCell _ _ _ _) (fun b e => .inr e)
            · obtain rfl : j = n9 := by omega
              have hbelr : Below w.heap.size w wr := below_grow hbel9 hg7 hbel9.size fun b e => by injection e with e; omega
              have hzr : wo.heap.size < wr.heap.size := by omega
              have htk : (rval [] rv).take j = rval [] rv := List.take_of_length_le (by have h1 := hln.out; rw [List.length_map] at h1; omega)
              rw [htk] at hown7 hl7
              clear htk
              cases rv with
              | error e3 =>
                have hne := gts_ne HQV.out
                have hit : itemR 2 cur = .error e3 := by unfold itemR; rw [HQK.out]; simp only [HQV.out]; rfl
                obtain rfl := (getsM_stop hlt HK hit).symm.trans HR2.out
                clear hit
                simp only [rerr_error]
                go_wp2_with fail
                go_ret3
                exact ⟨_, _, _, 0, rfl, Arr.nil, AtR.err, hbelr⟩
              | ok pv =>
                obtain ⟨yv, r3⟩ := pv
                simp only [rerr_ok, rval_ok] at hown7 ⊢
                have hq7 : q9 ≤ bs.length := (hq9.1 (yv.map .ofText, r3) rfl).1
                have hq8 : Hid (bs.drop q9 = r3) := (hq9.1 (yv.map .ofText, r3) rfl).2
                clear hq9 hq5 hq6
                have hit : itemR 2 cur = .ok (.ofMulti (yk, yv), r3) := by unfold itemR; rw [HQK.out]; simp only [HQV.out]; rfl
                have HK2 := getsM_snoc HK hit
                clear hit
                have hown9 := ((hown.imp (P' := itemP (fun b => (w.heap.size ≤ b ∧ A2.map (·.block) ≠ some b) ∧ b < wr.heap.size) wr) fun y _ v h => h.imp fun A n c l h => ((h.lt.after hbr9).grown hg7 (fun b hb e => by injection e with e; have := hb.2; omega)).mono fun b h1 _ => ⟨h1.1, Nat.lt_trans h1.2 hzr⟩).after hbr9).grown hg7 (fun b e e2 => by have := (hown.block b e).2; injection e2 with e2; omega)
                have hob : ∀ b, A2.map (·.block) = some b → w.heap.size ≤ b ∧ b < wo.heap.size := hown.block
                have HOB := Lib.hid hob; clear hob
                have hl9 := hown9.len (by decide)
                have hm2 : m2 ≤ 65535 := by omega
                clear hl9
                go_wp2_with (first | (at_builtin; refine wpList_appA rfl tyItem _ _ rfl w.heap.size _ _ _ xs rfl (hown9.after (by repeat (first | exact Below.refl _ _ | assumption | refine Below.drew ?_ | refine below_drewN ?_ _ | refine Below.alloc ?_ (by first | (simp; done) | omega | (simp; omega)) _ | refine Below.setCell ?_ (by first | (simp; done) | omega | (simp; omega)) _))) _ _ _ _ [.ofMulti (yk, yv)] rfl (arr_lit (P := itemP (fun b => (w.heap.size ≤ b ∧ A2.map (·.block) ≠ some b) ∧ b < wr.heap.size) wr) _ #[.string (str yk), .string (str []), .slice A7 m7 c7, .int .i64 0, .string (str [])] (.ofMulti (yk, yv)) rfl ⟨_, _, _, rfl, by simp [Thing.ofMulti]; omega, by simp [Thing.ofMulti], by simp [Thing.ofMulti, Val.none], (hown7.arr (by decide)).mono fun b h1 h2 => ⟨⟨by omega, fun e => by have := (HOB.out b e).2; omega⟩, h2⟩⟩ (by simp)) itemP_one (fun _ _ _ h => h) (by omega) (by unfold maxLen; omega) (by simp; omega) ?_; intro A4 m4 c4 w3 hown3 hg3 hwh3))
                go_roundw
                case rel =>
                  refine ⟨k + 1, q9, _, _, _, _, _, by omega, by go_num, rfl, rfl, HK2, hq7, hq8, ?_, ?_⟩
                  · exact hown3.imp fun y _ v h => h.imp fun A n c l h => ((h.after (by repeat (first | exact Below.refl _ _ | assumption | refine Below.drew ?_ | refine below_drewN ?_ _ | refine Below.alloc ?_ (by first | (simp; done) | omega | (simp; omega)) _ | refine Below.setCell ?_ (by first | (simp; done) | omega | (simp; omega)) _))).grown hg3 (fun b hb e => hb.1.2 e.symm)).mono fun b hb _ => ⟨hb.1.1, fun e => by rcases hwh3 b e with e2 | e2; exact hb.1.2 e2; (have := hb.2; simp at e2; omega)⟩
                  · exact Below.grown (by repeat (first | exact Below.refl _ _ | assumption | refine Below.drew ?_ | refine below_drewN ?_ _ | refine Below.alloc ?_ (by first | (simp; done) | omega | (simp; omega)) _ | refine Below.setCell ?_ (by first | (simp; done) | omega | (simp; omega)) _)) hg3 (by simp; omega) fun b e => (HOB.out b e).1
                case measure => simp [intOf]; omega
      · obtain rfl : k = n := by omega
        go_wp2_with fail
        go_ret3
        obtain rfl := HK.symm.trans HR2.out
        exact ⟨_, _, _, q, rfl, ((hown.arr (by decide)).mono fun b h _ => h.1).imp fun x _ v h => h.imp fun A n c l h => h.mono fun b h _ => h.1, AtR.ok hqle hcur.out, hbel⟩
end Go.Proofs.Sb
