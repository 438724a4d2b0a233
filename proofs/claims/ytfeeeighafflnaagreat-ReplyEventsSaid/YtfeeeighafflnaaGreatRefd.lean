/- Walks over signalboxref03.Get, kind by kind. Conditions: lengths up to 2^47. (written by gen_refget.py) -/
import Derived.Test.YtfeeeighafflnaaGreatRefc
set_option linter.unusedVariables false
set_option linter.unusedSimpArgs false
namespace Go.Proofs.Sb
open Go.RowKit _root_.Sb

theorem gv_bytes {b : B} {v : Val} {r : B} (h : getValue b = .ok (v, r)) : v.bytes.length ≤ b.length := by
  unfold getValue at h
  cases hg : getNum b with
  | error e' => rw [hg] at h; cases h
  | ok p =>
    obtain ⟨n, q⟩ := p
    have h1 := (getNum_ok hg).2.1
    have h2 : q.length ≤ b.length := by rw [h1, List.length_drop]; omega
    rw [hg] at h
    simp only at h
    split at h
    · injection h with h; injection h with e1 e2; rw [← e1]; simp
    · split at h
      · injection h with h; injection h with e1 e2; rw [← e1]; simp
      · split at h
        · cases h
        · cases hq : takeN n.toNat q with
          | error e2 => rw [hq] at h; cases h
          | ok p2 =>
            obtain ⟨y, q2⟩ := p2
            rw [hq] at h
            injection h with h
            injection h with e1 e2
            rw [← e1]
            have := (takeN_ok hq).2.1
            have : y.length ≤ q.length := by rw [this, List.length_take]; omega
            simp only
            omega
theorem ir_len (K : Nat) (b : B) (x : Thing) (r : B) (h : itemR K b = .ok (x, r)) : r.length ≤ b.length := by
  unfold itemR at h
  cases h1 : getText b with
  | error e => rw [h1] at h; cases h
  | ok p =>
    obtain ⟨y, q⟩ := p
    have a := gt_len _ _ _ h1
    rw [h1] at h
    simp only at h
    split at h
    · injection h with h; injection h with e1 e2; subst e2; exact a
    · split at h
      · cases h2 : getText q with
        | error e => rw [h2] at h; cases h
        | ok p2 =>
          have b := gt_len _ _ _ h2
          rw [h2] at h; injection h with h; injection h with e1 e2; subst e2; omega
      · split at h
        · cases h2 : getTexts q with
          | error e => rw [h2] at h; cases h
          | ok p2 =>
            have b := gts_len _ _ _ h2
            rw [h2] at h; injection h with h; injection h with e1 e2; subst e2; omega
        · cases h2 : getValue q with
          | error e => rw [h2] at h; cases h
          | ok p2 =>
            have b := gv_len _ _ _ h2
            rw [h2] at h; injection h with h; injection h with e1 e2; subst e2; omega

set_option maxHeartbeats 2000000 in
set_option maxRecDepth 100000 in
theorem rgeti0_any {S : Nat → Prop} {A : Option Addr} {m c a : Nat} {bs : B} {w : World} (hs : Sl S w A m c bs) (hm : m ≤ 140737488355328) (ha : a ≤ m) (r : Res (List Thing)) (hr : getL (itemR 0) (bs.drop a) = r) :
    Calls Tryz.prog 39 #[.int .i64 0, .slice A m c, .int .i64 (a : Int)] w fun e w' => ∃ A1 n1 c1, ∃ q : Nat, e = .returned (.tuple #[.slice A1 n1 c1, .int .i64 (q : Int), .int .i64 (rerr r)]) ∧ Arr 5 (itemP (fun b => w.heap.size ≤ b) w') (fun b => w.heap.size ≤ b) w' A1 n1 c1 (rval [] r) ∧ AtR bs q r ∧ Below w.heap.size w w' := by
  obtain ⟨r0, hr0⟩ : ∃ r0, getN 2 (bs.drop a) = r0 := ⟨_, rfl⟩
  have hlen := Lib.hid hs.len
  unfold getL at hr
  rw [hr0] at hr
  have HR := Lib.hid hr; clear hr
  have HR0 := Lib.hid hr0; clear hr0
  cases r0 with
  | error e0 =>
    obtain rfl := getN_err HR0.out
    obtain rfl := HR.out
    go_enter Tryz.func39, Tryz.ntmps39
    go_wp2_with fail
    refine (rget_any hs ha (n := 2) (by omega) (by omega) _ HR0.out).mono ?_
    rintro e w1 ⟨q1, rfl, hq1, rfl⟩
    go_wp2_with fail
    go_ret3
    exact ⟨_, _, _, 0, rfl, Arr.nil, AtR.err, Below.refl _ _⟩
  | ok p0 =>
    obtain ⟨n, r1⟩ := p0
    obtain ⟨g1, g2, g3, g4⟩ := getN_ok HR0.out
    simp only [Nat.reducePow] at g4
    clear g2 g3
    have HR2 : Hid (getsM (itemR 0) n r1 = r) := HR
    clear HR
    go_enter Tryz.func39, Tryz.ntmps39
    go_wp2_with fail
    refine (rget_any hs ha (n := 2) (by omega) (by omega) _ HR0.out).mono ?_
    rintro e w1 ⟨q1, rfl, hq1, rfl⟩
    have hq2 := hq1.le
    have hq3 := Lib.hid hq1.drop
    clear hq1
    go_wp2_with fail
    go_loopw [10, 11, 12, 13, 14, 15, 16] (fun u _ o i _ _ _ wr => ∃ (k q : Nat), ∃ A2 m2 c2 xs cur, k ≤ n ∧ i = .int .u64 (k : Nat) ∧ u = .int .i64 (q : Nat) ∧ o = .slice A2 m2 c2 ∧ Hid (getsM (itemR 0) k r1 = .ok (xs, cur)) ∧ q ≤ bs.length ∧ Hid (bs.drop q = cur) ∧ OwnA 100 5 (itemP (fun _ => False) w) w.heap.size wr A2 m2 c2 xs ∧ Below w.heap.size w wr) (fun _ _ _ i _ _ _ _ => n - (intOf i).toNat)
    case atStart => exact ⟨0, q1, none, 0, 0, [], r1, by omega, rfl, rfl, rfl, rfl, hq2, hq3, OwnA.nil, Below.refl _ _⟩
    case round =>
      obtain ⟨k, q, A2, m2, c2, xs, cur, hk, rfl, rfl, rfl, HK, hqle, hcur, hown, hbel⟩ := hrel
      have hxl := (getsM_len (ir_len 0) HK).1
      have hsz := hbel.size
      by_cases hlt : k < n
      · obtain ⟨rk, hrk⟩ : ∃ q, getText cur = q := ⟨_, rfl⟩
        have HQK := Lib.hid hrk; clear hrk
        go_wp2_with fail
        refine (rgetText_any (a := q) (hs.after (Below.alloc hbel hsz _)) hm (by have := hlen.out; omega) rk (by rw [hcur.out]; exact HQK.out)).mono ?_
        rintro e w2 ⟨q4, rfl, hq4, rfl⟩
        cases rk with
        | error e2 =>
          have hne := gt_ne HQK.out
          have hit : itemR 0 cur = .error e2 := by unfold itemR; rw [HQK.out]
          obtain rfl := (getsM_stop hlt HK hit).symm.trans HR2.out
          clear hit
          go_wp2_with fail
          go_ret3
          exact ⟨_, _, _, 0, rfl, Arr.nil, AtR.err, (by repeat (first | exact Below.refl _ _ | assumption | refine Below.drew ?_ | refine below_drewN ?_ _ | refine Below.alloc ?_ (by first | (simp; done) | omega | (simp; omega)) _ | refine Below.setCell ?_ (by first | (simp; done) | omega | (simp; omega)) _))⟩
        | ok pk =>
          obtain ⟨yk, r2⟩ := pk
          have hykl := (getText_ok HQK.out).1
          have hq5 := hq4.le
          have hq6 := Lib.hid hq4.drop
          clear hq4
          have hit : itemR 0 cur = .ok (.ofText yk, r2) := by unfold itemR; rw [HQK.out]; rfl
          have HK2 := getsM_snoc HK hit
          clear hit
          go_wp2_with (first | (at_builtin; refine wpList_appA rfl tyItem _ _ rfl w.heap.size _ _ _ xs rfl (hown.after (by repeat (first | exact Below.refl _ _ | assumption | refine Below.drew ?_ | refine below_drewN ?_ _ | refine Below.alloc ?_ (by first | (simp; done) | omega | (simp; omega)) _ | refine Below.setCell ?_ (by first | (simp; done) | omega | (simp; omega)) _))) _ _ _ _ [.ofText yk] rfl (arr_lit (P := itemP (fun _ => False) w) _ #[.string (str yk), .string (str []), .slice none 0 0, .int .i64 0, .string (str [])] (.ofText yk) rfl ⟨_, _, _, rfl, by simp [Thing.ofText]; omega, by simp [Thing.ofText], by simp [Thing.ofText, Val.none], Arr.nil⟩ (by simp)) itemP_one (fun _ _ _ h => h) (by have := hown.len (by decide); omega) (by have := hown.len (by decide); unfold maxLen; omega) (by simp; omega) ?_; intro A4 m4 c4 w3 hown3 hg3 hwh3))
          go_roundw
          case rel =>
            refine ⟨k + 1, q4, _, _, _, _, _, by omega, by go_num, rfl, rfl, HK2, ?_, ?_, hown3, ?_⟩
            · first | exact hq5 | exact hq7
            · first | exact hq6 | exact hq8
            · exact Below.grown (by repeat (first | exact Below.refl _ _ | assumption | refine Below.drew ?_ | refine below_drewN ?_ _ | refine Below.alloc ?_ (by first | (simp; done) | omega | (simp; omega)) _ | refine Below.setCell ?_ (by first | (simp; done) | omega | (simp; omega)) _)) hg3 (by simp; omega) fun b e => (hown.block b e).1
          case measure => simp [intOf]; omega
      · obtain rfl : k = n := by omega
        go_wp2_with fail
        go_ret3
        obtain rfl := HK.symm.trans HR2.out
        exact ⟨_, _, _, q, rfl, ((hown.arr (by decide)).mono fun b h _ => h.1).imp fun x _ v h => h.imp fun A n c l h => (h.after hbel).mono fun _ h _ => h.elim, AtR.ok hqle hcur.out, hbel⟩

set_option maxHeartbeats 2000000 in
set_option maxRecDepth 100000 in
theorem rgeti1_any {S : Nat → Prop} {A : Option Addr} {m c a : Nat} {bs : B} {w : World} (hs : Sl S w A m c bs) (hm : m ≤ 140737488355328) (ha : a ≤ m) (r : Res (List Thing)) (hr : getL (itemR 1) (bs.drop a) = r) :
    Calls Tryz.prog 39 #[.int .i64 1, .slice A m c, .int .i64 (a : Int)] w fun e w' => ∃ A1 n1 c1, ∃ q : Nat, e = .returned (.tuple #[.slice A1 n1 c1, .int .i64 (q : Int), .int .i64 (rerr r)]) ∧ Arr 5 (itemP (fun b => w.heap.size ≤ b) w') (fun b => w.heap.size ≤ b) w' A1 n1 c1 (rval [] r) ∧ AtR bs q r ∧ Below w.heap.size w w' := by
  obtain ⟨r0, hr0⟩ : ∃ r0, getN 2 (bs.drop a) = r0 := ⟨_, rfl⟩
  have hlen := Lib.hid hs.len
  unfold getL at hr
  rw [hr0] at hr
  have HR := Lib.hid hr; clear hr
  have HR0 := Lib.hid hr0; clear hr0
  cases r0 with
  | error e0 =>
    obtain rfl := getN_err HR0.out
    obtain rfl := HR.out
    go_enter Tryz.func39, Tryz.ntmps39
    go_wp2_with fail
    refine (rget_any hs ha (n := 2) (by omega) (by omega) _ HR0.out).mono ?_
    rintro e w1 ⟨q1, rfl, hq1, rfl⟩
    go_wp2_with fail
    go_ret3
    exact ⟨_, _, _, 0, rfl, Arr.nil, AtR.err, Below.refl _ _⟩
  | ok p0 =>
    obtain ⟨n, r1⟩ := p0
    obtain ⟨g1, g2, g3, g4⟩ := getN_ok HR0.out
    simp only [Nat.reducePow] at g4
    clear g2 g3
    have HR2 : Hid (getsM (itemR 1) n r1 = r) := HR
    clear HR
    go_enter Tryz.func39, Tryz.ntmps39
    go_wp2_with fail
    refine (rget_any hs ha (n := 2) (by omega) (by omega) _ HR0.out).mono ?_
    rintro e w1 ⟨q1, rfl, hq1, rfl⟩
    have hq2 := hq1.le
    have hq3 := Lib.hid hq1.drop
    clear hq1
    go_wp2_with fail
    go_loopw [10, 11, 12, 13, 14, 15, 16] (fun u _ o i _ _ _ wr => ∃ (k q : Nat), ∃ A2 m2 c2 xs cur, k ≤ n ∧ i = .int .u64 (k : Nat) ∧ u = .int .i64 (q : Nat) ∧ o = .slice A2 m2 c2 ∧ Hid (getsM (itemR 1) k r1 = .ok (xs, cur)) ∧ q ≤ bs.length ∧ Hid (bs.drop q = cur) ∧ OwnA 100 5 (itemP (fun _ => False) w) w.heap.size wr A2 m2 c2 xs ∧ Below w.heap.size w wr) (fun _ _ _ i _ _ _ _ => n - (intOf i).toNat)
    case atStart => exact ⟨0, q1, none, 0, 0, [], r1, by omega, rfl, rfl, rfl, rfl, hq2, hq3, OwnA.nil, Below.refl _ _⟩
    case round =>
      obtain ⟨k, q, A2, m2, c2, xs, cur, hk, rfl, rfl, rfl, HK, hqle, hcur, hown, hbel⟩ := hrel
      have hxl := (getsM_len (ir_len 1) HK).1
      have hsz := hbel.size
      by_cases hlt : k < n
      · obtain ⟨rk, hrk⟩ : ∃ q, getText cur = q := ⟨_, rfl⟩
        have HQK := Lib.hid hrk; clear hrk
        go_wp2_with fail
        refine (rgetText_any (a := q) (hs.after (Below.alloc hbel hsz _)) hm (by have := hlen.out; omega) rk (by rw [hcur.out]; exact HQK.out)).mono ?_
        rintro e w2 ⟨q4, rfl, hq4, rfl⟩
        cases rk with
        | error e2 =>
          have hne := gt_ne HQK.out
          have hit : itemR 1 cur = .error e2 := by unfold itemR; rw [HQK.out]
          obtain rfl := (getsM_stop hlt HK hit).symm.trans HR2.out
          clear hit
          go_wp2_with fail
          go_ret3
          exact ⟨_, _, _, 0, rfl, Arr.nil, AtR.err, (by repeat (first | exact Below.refl _ _ | assumption | refine Below.drew ?_ | refine below_drewN ?_ _ | refine Below.alloc ?_ (by first | (simp; done) | omega | (simp; omega)) _ | refine Below.setCell ?_ (by first | (simp; done) | omega | (simp; omega)) _))⟩
        | ok pk =>
          obtain ⟨yk, r2⟩ := pk
          have hykl := (getText_ok HQK.out).1
          have hq5 := hq4.le
          have hq6 := Lib.hid hq4.drop
          clear hq4
          obtain ⟨rv, hrv⟩ : ∃ q, getText r2 = q := ⟨_, rfl⟩
          have HQV := Lib.hid hrv; clear hrv
          go_wp2_with fail
          refine (rgetText_any (a := q4) (hs.after (by repeat (first | exact Below.refl _ _ | assumption | refine Below.drew ?_ | refine below_drewN ?_ _ | refine Below.alloc ?_ (by first | (simp; done) | omega | (simp; omega)) _ | refine Below.setCell ?_ (by first | (simp; done) | omega | (simp; omega)) _))) hm (by have := hlen.out; omega) rv (by rw [hq6.out]; exact HQV.out)).mono ?_
          rintro e w3 ⟨q9, rfl, hq9, rfl⟩
          cases rv with
          | error e3 =>
            have hne := gt_ne HQV.out
            have hit : itemR 1 cur = .error e3 := by unfold itemR; rw [HQK.out]; simp only [HQV.out]; rfl
            obtain rfl := (getsM_stop hlt HK hit).symm.trans HR2.out
            clear hit
            go_wp2_with fail
            go_ret3
            exact ⟨_, _, _, 0, rfl, Arr.nil, AtR.err, (by repeat (first | exact Below.refl _ _ | assumption | refine Below.drew ?_ | refine below_drewN ?_ _ | refine Below.alloc ?_ (by first | (simp; done) | omega | (simp; omega)) _ | refine Below.setCell ?_ (by first | (simp; done) | omega | (simp; omega)) _))⟩
          | ok pv =>
            obtain ⟨yv, r3⟩ := pv
            have hq7 := hq9.le
            have hq8 := Lib.hid hq9.drop
            clear hq9 hq5 hq6
            have hit : itemR 1 cur = .ok (.ofPair (yk, yv), r3) := by unfold itemR; rw [HQK.out]; simp only [HQV.out]; rfl
            have HK2 := getsM_snoc HK hit
            clear hit
            go_wp2_with (first | (at_builtin; refine wpList_appA rfl tyItem _ _ rfl w.heap.size _ _ _ xs rfl (hown.after (by repeat (first | exact Below.refl _ _ | assumption | refine Below.drew ?_ | refine below_drewN ?_ _ | refine Below.alloc ?_ (by first | (simp; done) | omega | (simp; omega)) _ | refine Below.setCell ?_ (by first | (simp; done) | omega | (simp; omega)) _))) _ _ _ _ [.ofPair (yk, yv)] rfl (arr_lit (P := itemP (fun _ => False) w) _ #[.string (str yk), .string (str yv), .slice none 0 0, .int .i64 0, .string (str [])] (.ofPair (yk, yv)) rfl ⟨_, _, _, rfl, by simp [Thing.ofPair]; omega, by have := (getText_ok HQV.out).1; simp [Thing.ofPair]; omega, by simp [Thing.ofPair, Val.none], Arr.nil⟩ (by simp)) itemP_one (fun _ _ _ h => h) (by have := hown.len (by decide); omega) (by have := hown.len (by decide); unfold maxLen; omega) (by simp; omega) ?_; intro A4 m4 c4 w3 hown3 hg3 hwh3))
            go_roundw
            case rel =>
              refine ⟨k + 1, q9, _, _, _, _, _, by omega, by go_num, rfl, rfl, HK2, ?_, ?_, hown3, ?_⟩
              · first | exact hq5 | exact hq7
              · first | exact hq6 | exact hq8
              · exact Below.grown (by repeat (first | exact Below.refl _ _ | assumption | refine Below.drew ?_ | refine below_drewN ?_ _ | refine Below.alloc ?_ (by first | (simp; done) | omega | (simp; omega)) _ | refine Below.setCell ?_ (by first | (simp; done) | omega | (simp; omega)) _)) hg3 (by simp; omega) fun b e => (hown.block b e).1
            case measure => simp [intOf]; omega
      · obtain rfl : k = n := by omega
        go_wp2_with fail
        go_ret3
        obtain rfl := HK.symm.trans HR2.out
        exact ⟨_, _, _, q, rfl, ((hown.arr (by decide)).mono fun b h _ => h.1).imp fun x _ v h => h.imp fun A n c l h => (h.after hbel).mono fun _ h _ => h.elim, AtR.ok hqle hcur.out, hbel⟩

set_option maxHeartbeats 2000000 in
set_option maxRecDepth 100000 in
theorem rgeti3_any {S : Nat → Prop} {A : Option Addr} {m c a : Nat} {bs : B} {w : World} (hs : Sl S w A m c bs) (hm : m ≤ 140737488355328) (ha : a ≤ m) (r : Res (List Thing)) (hr : getL (itemR 3) (bs.drop a) = r) :
    Calls Tryz.prog 39 #[.int .i64 3, .slice A m c, .int .i64 (a : Int)] w fun e w' => ∃ A1 n1 c1, ∃ q : Nat, e = .returned (.tuple #[.slice A1 n1 c1, .int .i64 (q : Int), .int .i64 (rerr r)]) ∧ Arr 5 (itemP (fun b => w.heap.size ≤ b) w') (fun b => w.heap.size ≤ b) w' A1 n1 c1 (rval [] r) ∧ AtR bs q r ∧ Below w.heap.size w w' := by
  obtain ⟨r0, hr0⟩ : ∃ r0, getN 2 (bs.drop a) = r0 := ⟨_, rfl⟩
  have hlen := Lib.hid hs.len
  unfold getL at hr
  rw [hr0] at hr
  have HR := Lib.hid hr; clear hr
  have HR0 := Lib.hid hr0; clear hr0
  cases r0 with
  | error e0 =>
    obtain rfl := getN_err HR0.out
    obtain rfl := HR.out
    go_enter Tryz.func39, Tryz.ntmps39
    go_wp2_with fail
    refine (rget_any hs ha (n := 2) (by omega) (by omega) _ HR0.out).mono ?_
    rintro e w1 ⟨q1, rfl, hq1, rfl⟩
    go_wp2_with fail
    go_ret3
    exact ⟨_, _, _, 0, rfl, Arr.nil, AtR.err, Below.refl _ _⟩
  | ok p0 =>
    obtain ⟨n, r1⟩ := p0
    obtain ⟨g1, g2, g3, g4⟩ := getN_ok HR0.out
    simp only [Nat.reducePow] at g4
    clear g2 g3
    have HR2 : Hid (getsM (itemR 3) n r1 = r) := HR
    clear HR
    go_enter Tryz.func39, Tryz.ntmps39
    go_wp2_with fail
    refine (rget_any hs ha (n := 2) (by omega) (by omega) _ HR0.out).mono ?_
    rintro e w1 ⟨q1, rfl, hq1, rfl⟩
    have hq2 := hq1.le
    have hq3 := Lib.hid hq1.drop
    clear hq1
    go_wp2_with fail
    go_loopw [10, 11, 12, 13, 14, 15, 16] (fun u _ o i _ _ _ wr => ∃ (k q : Nat), ∃ A2 m2 c2 xs cur, k ≤ n ∧ i = .int .u64 (k : Nat) ∧ u = .int .i64 (q : Nat) ∧ o = .slice A2 m2 c2 ∧ Hid (getsM (itemR 3) k r1 = .ok (xs, cur)) ∧ q ≤ bs.length ∧ Hid (bs.drop q = cur) ∧ OwnA 100 5 (itemP (fun _ => False) w) w.heap.size wr A2 m2 c2 xs ∧ Below w.heap.size w wr) (fun _ _ _ i _ _ _ _ => n - (intOf i).toNat)
    case atStart => exact ⟨0, q1, none, 0, 0, [], r1, by omega, rfl, rfl, rfl, rfl, hq2, hq3, OwnA.nil, Below.refl _ _⟩
    case round =>
      obtain ⟨k, q, A2, m2, c2, xs, cur, hk, rfl, rfl, rfl, HK, hqle, hcur, hown, hbel⟩ := hrel
      have hxl := (getsM_len (ir_len 3) HK).1
      have hsz := hbel.size
      by_cases hlt : k < n
      · obtain ⟨rk, hrk⟩ : ∃ q, getText cur = q := ⟨_, rfl⟩
        have HQK := Lib.hid hrk; clear hrk
        go_wp2_with fail
        refine (rgetText_any (a := q) (hs.after (Below.alloc hbel hsz _)) hm (by have := hlen.out; omega) rk (by rw [hcur.out]; exact HQK.out)).mono ?_
        rintro e w2 ⟨q4, rfl, hq4, rfl⟩
        cases rk with
        | error e2 =>
          have hne := gt_ne HQK.out
          have hit : itemR 3 cur = .error e2 := by unfold itemR; rw [HQK.out]
          obtain rfl := (getsM_stop hlt HK hit).symm.trans HR2.out
          clear hit
          go_wp2_with fail
          go_ret3
          exact ⟨_, _, _, 0, rfl, Arr.nil, AtR.err, (by repeat (first | exact Below.refl _ _ | assumption | refine Below.drew ?_ | refine below_drewN ?_ _ | refine Below.alloc ?_ (by first | (simp; done) | omega | (simp; omega)) _ | refine Below.setCell ?_ (by first | (simp; done) | omega | (simp; omega)) _))⟩
        | ok pk =>
          obtain ⟨yk, r2⟩ := pk
          have hykl := (getText_ok HQK.out).1
          have hq5 := hq4.le
          have hq6 := Lib.hid hq4.drop
          clear hq4
          obtain ⟨rv, hrv⟩ : ∃ q, getValue r2 = q := ⟨_, rfl⟩
          have HQV := Lib.hid hrv; clear hrv
          go_wp2_with fail
          refine (rgetValue_any (a := q4) (hs.after (by repeat (first | exact Below.refl _ _ | assumption | refine Below.drew ?_ | refine below_drewN ?_ _ | refine Below.alloc ?_ (by first | (simp; done) | omega | (simp; omega)) _ | refine Below.setCell ?_ (by first | (simp; done) | omega | (simp; omega)) _))) hm (by have := hlen.out; omega) rv (by rw [hq6.out]; exact HQV.out)).mono ?_
          rintro e w9 ⟨q9, rfl, hq9, hb9⟩
          obtain ⟨hc9, hf9⟩ := bcell hb9
          have hbel9 : Below w.heap.size w w9 := Below.trans (by repeat (first | exact Below.refl _ _ | assumption | refine Below.drew ?_ | refine below_drewN ?_ _ | refine Below.alloc ?_ (by first | (simp; done) | omega | (simp; omega)) _ | refine Below.setCell ?_ (by first | (simp; done) | omega | (simp; omega)) _)) (hb9.mono (by simp; omega))
          have hbr9 : Below wr.heap.size wr w9 := Below.trans (by repeat (first | exact Below.refl _ _ | assumption | refine Below.drew ?_ | refine below_drewN ?_ _ | refine Below.alloc ?_ (by first | (simp; done) | omega | (simp; omega)) _ | refine Below.setCell ?_ (by first | (simp; done) | omega | (simp; omega)) _)) (hb9.mono (by simp))
          have hz9 : wr.heap.size < w9.heap.size := by (have := hb9.size; simp at this; omega)
          cases rv with
          | error e3 =>
            have hne := gv_ne HQV.out
            have hit : itemR 3 cur = .error e3 := by unfold itemR; rw [HQK.out]; simp only [HQV.out]; rfl
            obtain rfl := (getsM_stop hlt HK hit).symm.trans HR2.out
            clear hit
            go_wp2_with fail
            go_ret3
            exact ⟨_, _, _, 0, rfl, Arr.nil, AtR.err, (by repeat (first | exact Below.refl _ _ | assumption | refine Below.drew ?_ | refine below_drewN ?_ _ | refine Below.alloc ?_ (by first | (simp; done) | omega | (simp; omega)) _ | refine Below.setCell ?_ (by first | (simp; done) | omega | (simp; omega)) _))⟩
          | ok pv =>
            obtain ⟨yv, r3⟩ := pv
            have hq7 := hq9.le
            have hq8 := Lib.hid hq9.drop
            clear hq9 hq5 hq6
            have hit : itemR 3 cur = .ok (.ofEntry (yk, yv), r3) := by unfold itemR; rw [HQK.out]; simp only [HQV.out]; rfl
            have HK2 := getsM_snoc HK hit
            clear hit
            go_wp2_with (first | (at_builtin; refine wpList_appA rfl tyItem _ _ rfl w.heap.size _ _ _ xs rfl (hown.after (by repeat (first | exact Below.refl _ _ | assumption | refine Below.drew ?_ | refine below_drewN ?_ _ | refine Below.alloc ?_ (by first | (simp; done) | omega | (simp; omega)) _ | refine Below.setCell ?_ (by first | (simp; done) | omega | (simp; omega)) _))) _ _ _ _ [.ofEntry (yk, yv)] rfl (arr_lit (P := itemP (fun _ => False) w) _ #[.string (str yk), .string (str []), .slice none 0 0, .int .i64 yv.kind, .string (str yv.bytes)] (.ofEntry (yk, yv)) rfl ⟨_, _, _, rfl, by simp [Thing.ofEntry]; omega, by simp [Thing.ofEntry], by have h1 := gv_bytes HQV.out; have h2 := gt_len _ _ _ HQK.out; have h3 := congrArg List.length hcur.out; rw [List.length_drop] at h3; have h4 := hlen.out; simp [Thing.ofEntry]; omega, Arr.nil⟩ (by simp)) itemP_one (fun _ _ _ h => h) (by have := hown.len (by decide); omega) (by have := hown.len (by decide); unfold maxLen; omega) (by simp; omega) ?_; intro A4 m4 c4 w3 hown3 hg3 hwh3))
            go_roundw
            case rel =>
              refine ⟨k + 1, q9, _, _, _, _, _, by omega, by go_num, rfl, rfl, HK2, ?_, ?_, hown3, ?_⟩
              · first | exact hq5 | exact hq7
              · first | exact hq6 | exact hq8
              · exact Below.grown (by repeat (first | exact Below.refl _ _ | assumption | refine Below.drew ?_ | refine below_drewN ?_ _ | refine Below.alloc ?_ (by first | (simp; done) | omega | (simp; omega)) _ | refine Below.setCell ?_ (by first | (simp; done) | omega | (simp; omega)) _)) hg3 (by simp; omega) fun b e => (hown.block b e).1
            case measure => simp [intOf]; omega
      · obtain rfl : k = n := by omega
        go_wp2_with fail
        go_ret3
        obtain rfl := HK.symm.trans HR2.out
        exact ⟨_, _, _, q, rfl, ((hown.arr (by decide)).mono fun b h _ => h.1).imp fun x _ v h => h.imp fun A n c l h => (h.after hbel).mono fun _ h _ => h.elim, AtR.ok hqle hcur.out, hbel⟩
end Go.Proofs.Sb
