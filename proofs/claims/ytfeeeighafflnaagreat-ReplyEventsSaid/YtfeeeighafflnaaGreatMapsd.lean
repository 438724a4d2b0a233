/- Walks over the package maps: get of structs. Conditions: lengths up to 2^47. (written by gen_mapsget.py) -/
import Derived.Test.YtfeeeighafflnaaGreatMapsb
set_option linter.unusedVariables false
set_option linter.unusedSimpArgs false
namespace Go.Proofs.Sb
open Go.RowKit _root_.Sb

theorem Arr.lt {α : Type} {k : Nat} {P : α → List Value → Prop} {S : Nat → Prop} {w : World} {A : Option Addr} {n c : Nat} {l : List α} (h : Arr k P S w A n c l) : Arr k P (fun b => S b ∧ b < w.heap.size) w A n c l := h.mono fun _ hs hl => ⟨hs, hl⟩
theorem multiP.imp {S S' : Nat → Prop} {w w' : World} {p : B × List B} {v : List Value} (h : multiP S w p v) (hi : ∀ A n c l, Arr 1 strP S w A n c l → Arr 1 strP S' w' A n c l) : multiP S' w' p v :=
  let ⟨A, n, c, h1, h2, h3⟩ := h; ⟨A, n, c, h1, h2, hi _ _ _ _ h3⟩
theorem entryP.imp {S S' : Nat → Prop} {w w' : World} {p : B × Val} {v : List Value} (h : entryP S w p v) (hi : ∀ A n c l, Sl S w A n c l → Sl S' w' A n c l) : entryP S' w' p v :=
  let ⟨A, n, c, h1, h2, h3⟩ := h; ⟨A, n, c, h1, h2, hi _ _ _ _ h3⟩
theorem pairP_one (p : B × B) (v : List Value) (h : pairP p v) : ∀ u ∈ v, u.oneCell' = true := by
  rw [h.1]
  intro u hu
  simp at hu
  rcases hu with rfl | rfl <;> rfl
theorem multiP_one {S : Nat → Prop} {w : World} (p : B × List B) (v : List Value) (h : multiP S w p v) : ∀ u ∈ v, u.oneCell' = true := by
  obtain ⟨A, n, c, h, _⟩ := h
  rw [h]
  intro u hu
  simp at hu
  rcases hu with rfl | rfl <;> rfl
theorem entryP_one {S : Nat → Prop} {w : World} (p : B × Val) (v : List Value) (h : entryP S w p v) : ∀ u ∈ v, u.oneCell' = true := by
  obtain ⟨A, n, c, h, _⟩ := h
  rw [h]
  intro u hu
  simp at hu
  rcases hu with rfl | rfl | rfl <;> rfl
theorem tyMulti : Ty 30 65 2 40 (.agg #[.string ByteArray.empty, .slice none 0 0]) := ⟨Tryz.underlying30, by kernel_rfl, rfl, by decide⟩
theorem bothR_len {α β : Type} {f : B → Res α} {g : B → Res β} (hf : ∀ b x r, f b = .ok (x, r) → r.length ≤ b.length) (hg : ∀ b x r, g b = .ok (x, r) → r.length ≤ b.length) (b : B) (x : α × β) (r : B) (h : bothR f g b = .ok (x, r)) : r.length ≤ b.length := by
  unfold bothR at h
  cases h1 : f b with
  | error e => rw [h1] at h; cases h
  | ok p =>
    obtain ⟨y, q⟩ := p
    rw [h1] at h
    simp only at h
    cases h2 : g q with
    | error e => rw [h2] at h; cases h
    | ok p2 =>
      obtain ⟨z, q2⟩ := p2
      rw [h2] at h
      injection h with h
      injection h with e1 e2
      subst e2
      have := hf _ _ _ h1
      have := hg _ _ _ h2
      omega
theorem bothR_ne {α β : Type} {f : B → Res α} {g : B → Res β} (hf : ∀ b e, f b = .error e → e ≠ 0) (hg : ∀ b e, g b = .error e → e ≠ 0) {b : B} {e : Int} (h : bothR f g b = .error e) : e ≠ 0 := by
  unfold bothR at h
  cases h1 : f b with
  | error e1 => rw [h1] at h; injection h with h; rw [← h]; exact hf _ _ h1
  | ok p =>
    obtain ⟨y, q⟩ := p
    rw [h1] at h
    simp only at h
    cases h2 : g q with
    | error e2 => rw [h2] at h; injection h with h; rw [← h]; exact hg _ _ h2
    | ok p2 => rw [h2] at h; cases h
theorem getsM_ne {α : Type} {f : B → Res α} (hf : ∀ b e, f b = .error e → e ≠ 0) : ∀ {n : Nat} {b : B} {e : Int}, getsM f n b = .error e → e ≠ 0
  | 0, _, _, h => by cases h
  | n + 1, b, e, h => by
    rw [getsM] at h
    cases h1 : f b with
    | error e1 => rw [h1] at h; injection h with h; rw [← h]; exact hf _ _ h1
    | ok p =>
      obtain ⟨y, q⟩ := p
      rw [h1] at h
      simp only at h
      cases h2 : getsM f n q with
      | error e2 => rw [h2] at h; injection h with h; rw [← h]; exact getsM_ne hf h2
      | ok p2 => rw [h2] at h; cases h
theorem getL_ne {α : Type} {f : B → Res α} (hf : ∀ b e, f b = .error e → e ≠ 0) {b : B} {e : Int} (h : getL f b = .error e) : e ≠ 0 := by
  unfold getL at h
  cases hg : getN 2 b with
  | error e1 => rw [hg] at h; injection h with h; have := getN_err hg; omega
  | ok p => obtain ⟨n, q⟩ := p; rw [hg] at h; exact getsM_ne hf h
theorem gv_ne {b : B} {e : Int} (h : getValue b = .error e) : e ≠ 0 := by
  unfold getValue at h
  cases hg : getNum b with
  | error e' => rw [hg] at h; injection h with h; have := getNum_err hg; omega
  | ok p =>
    obtain ⟨n, r⟩ := p
    rw [hg] at h
    simp only at h
    split at h
    · cases h
    · split at h
      · cases h
      · split at h
        · injection h; omega
        · cases hq : takeN n.toNat r with
          | error e2 => rw [hq] at h; injection h with h; have := takeN_err hq; omega
          | ok p2 => rw [hq] at h; cases h
theorem gt_len (b x r : B) (h : getText b = .ok (x, r)) : r.length ≤ b.length := by have := getText_ok h; omega
theorem gts_len (b : B) (x : List B) (r : B) (h : getTexts b = .ok (x, r)) : r.length ≤ b.length := (getL_len gt_len h).2
theorem gv_len (b : B) (x : Val) (r : B) (h : getValue b = .ok (x, r)) : r.length ≤ b.length := by
  unfold getValue at h
  cases hg : getNum b with
  | error e' => rw [hg] at h; cases h
  | ok p =>
    obtain ⟨n, q⟩ := p
    have h1 := (getNum_ok hg).2.1
    have h2 : q.length ≤ b.length := by rw [h1, List.length_drop]; omega
    rw [hg] at h
    simp only at h
    split at h
    · injection h with h; injection h with e1 e2; subst e2; exact h2
    · split at h
      · injection h with h; injection h with e1 e2; subst e2; exact h2
      · split at h
        · cases h
        · cases hq : takeN n.toNat q with
          | error e2 => rw [hq] at h; cases h
          | ok p2 =>
            obtain ⟨y, q2⟩ := p2
            rw [hq] at h
            injection h with h
            injection h with e1 e2
            subst e2
            have := (takeN_ok hq).2.2
            have : q2.length ≤ q.length := by rw [this, List.length_drop]; omega
            omega
theorem pr_len (b : B) (x : B × B) (r : B) (h : pairR b = .ok (x, r)) : r.length ≤ b.length := bothR_len gt_len gt_len b x r h
theorem mr_len (b : B) (x : B × List B) (r : B) (h : multiR b = .ok (x, r)) : r.length ≤ b.length := bothR_len gt_len gts_len b x r h
theorem er_len (b : B) (x : B × Val) (r : B) (h : entryR b = .ok (x, r)) : r.length ≤ b.length := bothR_len gt_len gv_len b x r h
theorem gts_ne {b : B} {e : Int} (h : getTexts b = .error e) : e ≠ 0 := getL_ne (fun _ _ h => gt_ne h) h
theorem pr_ne {b : B} {e : Int} (h : pairR b = .error e) : e ≠ 0 := bothR_ne (fun _ _ h => gt_ne h) (fun _ _ h => gt_ne h) h
theorem mr_ne {b : B} {e : Int} (h : multiR b = .error e) : e ≠ 0 := bothR_ne (fun _ _ h => gt_ne h) (fun _ _ h => gts_ne h) h
theorem er_ne {b : B} {e : Int} (h : entryR b = .error e) : e ≠ 0 := bothR_ne (fun _ _ h => gt_ne h) (fun _ _ h => gv_ne h) h

set_option maxHeartbeats 1000000 in
theorem getm_any {S : Nat → Prop} {A : Option Addr} {m c : Nat} {bs : B} {w : World} (hs : Sl S w A m c bs) (hm : m ≤ 140737488355328) (r : Res (List (B × List B))) (hr : getL multiR bs = r) :
    Calls Tryz.prog 81 #[.slice A m c, .func (.func 82) #[] #[]] w fun e w' => ∃ A1 n1 c1 A2 n2 c2, e = .returned (.tuple #[.slice A1 n1 c1, .slice A2 n2 c2, .int .i64 (rerr r)]) ∧ Arr 2 (multiP (fun b => w.heap.size ≤ b) w') (fun b => w.heap.size ≤ b) w' A1 n1 c1 (rval [] r) ∧ Sl S w' A2 n2 c2 (rrest r) ∧ Below w.heap.size w w' := by
  obtain ⟨r0, hr0⟩ : ∃ r0, getN 2 bs = r0 := ⟨_, rfl⟩
  have hlen := Lib.hid hs.len
  unfold getL at hr
  rw [hr0] at hr
  have HR := Lib.hid hr; clear hr
  have HR0 := Lib.hid hr0; clear hr0
  cases r0 with
  | error e0 =>
    obtain rfl := getN_err HR0.out
    obtain rfl := HR.out
    go_enter Tryz.func81, Tryz.ntmps81
    go_wp2_with fail
    refine (get_any hs (n := 2) (by omega) (by omega) _ HR0.out).mono ?_
    rintro e w1 ⟨A1, m1, c1, rfl, hs1, hb1⟩
    go_wp2_with fail
    go_ret3
    exact ⟨_, _, _, _, _, _, rfl, Arr.nil, Sl.nil, hb1⟩
  | ok p0 =>
    obtain ⟨n, r1⟩ := p0
    obtain ⟨g1, g2, g3, g4⟩ := getN_ok HR0.out
    simp only [Nat.reducePow] at g4
    have hr1 : r1.length + 2 = bs.length := by rw [g3, List.length_drop]; omega
    clear g2 g3
    have HR2 : Hid (getsM multiR n r1 = r) := HR
    clear HR
    go_enter Tryz.func81, Tryz.ntmps81
    go_wp2_with fail
    refine (get_any hs.lt (n := 2) (by omega) (by omega) _ HR0.out).mono ?_
    rintro e w1 ⟨A1, m1, c1, rfl, hs1, hb1⟩
    go_wp2_with fail
    go_loopw [0, 9, 23] (fun b o i wr => ∃ k A1 m1 c1 A2 m2 c2 xs cur, k ≤ n ∧ i = .int .u64 (k : Nat) ∧ b = .slice A1 m1 c1 ∧ o = .slice A2 m2 c2 ∧ Hid (getsM multiR k r1 = .ok (xs, cur)) ∧ Sl (fun b => S b ∧ b < w.heap.size) wr A1 m1 c1 cur ∧ OwnA 65 2 (multiP (fun b => w.heap.size ≤ b ∧ A2.map (·.block) ≠ some b) wr) w.heap.size wr A2 m2 c2 xs ∧ Below w.heap.size w wr) (fun _ _ i _ => n - (intOf i).toNat)
    case atStart => exact ⟨0, A1, m1, c1, none, 0, 0, [], r1, by omega, rfl, rfl, rfl, rfl, hs1, OwnA.nil, hb1⟩
    case round =>
      obtain ⟨k, A1, m1, c1, A2, m2, c2, xs, cur, hk, rfl, rfl, rfl, HK, hcur, hown, hbel⟩ := hrel
      have hcl := (getsM_len mr_len HK).2
      have hxl := (getsM_len mr_len HK).1
      have hsz := hbel.size
      by_cases hlt : k < n
      · obtain ⟨q, hq⟩ : ∃ q, multiR cur = q := ⟨_, rfl⟩
        have HQ := Lib.hid hq; clear hq
        go_wp2_with fail
        refine (getMulti1_any hcur (by have := hcur.len; have := hlen.out; omega) q HQ.out).mono ?_
        rintro e w2 ⟨y, A5, n5, c5, A3, m3, c3, rfl, hy1, hy2, hy3, hs3, hb3⟩
        have hbel2 : Below w.heap.size w w2 := Below.trans hbel (hb3.mono hsz)
        have hsz2 := hbel2.size
        cases q with
        | error e2 =>
          have hne := mr_ne HQ.out
          obtain rfl := (getsM_stop hlt HK HQ.out).symm.trans HR2.out
          go_wp2_with fail
          go_ret3
          exact ⟨_, _, _, _, _, _, rfl, Arr.nil, Sl.nil, (by repeat (first | exact Below.refl _ _ | assumption | refine Below.drew ?_ | refine below_drewN ?_ _ | refine Below.alloc ?_ (by first | (simp; done) | omega | (simp; omega)) _ | refine Below.setCell ?_ (by first | (simp; done) | omega | (simp; omega)) _))⟩
        | ok p2 =>
          obtain ⟨x, r2⟩ := p2
          obtain rfl := hy1 _ rfl
          clear hy1
          have hown2 := hown.after hb3
          have hsz3 := hb3.size
          have HK2 := getsM_snoc HK HQ.out
          go_wp2_with (first | (at_builtin; refine wpList_appA rfl tyMulti _ _ rfl w.heap.size _ _ _ xs rfl (P := multiP (fun b => w.heap.size ≤ b ∧ A2.map (·.block) ≠ some b) w2) ((hown2.imp fun x _ v h => h.imp fun A n c l h => h.after hb3).after (by repeat (first | exact Below.refl _ _ | assumption | refine Below.drew ?_ | refine below_drewN ?_ _ | refine Below.alloc ?_ (by first | (simp; done) | omega | (simp; omega)) _ | refine Below.setCell ?_ (by first | (simp; done) | omega | (simp; omega)) _))) _ _ _ _ [y] rfl (arr_lit (P := multiP (fun b => w.heap.size ≤ b ∧ A2.map (·.block) ≠ some b) w2) _ #[.string (str y.1), .slice A5 n5 c5] y rfl ⟨_, _, _, rfl, by omega, hy3.mono fun b h _ => ⟨by omega, fun e => by have := (hown.block b e).2; omega⟩⟩ (by simp)) multiP_one (fun _ _ _ h => h) (by have := hown2.len (by decide); omega) (by have := hown2.len (by decide); unfold maxLen; omega) (by simp; omega) ?_; intro A4 m4 c4 w3 hown3 hg3 hwh3))
          go_roundw
          case rel =>
            refine ⟨k + 1, _, _, _, _, _, _, _, _, by omega, by go_num, rfl, rfl, HK2, ?_, ?_, ?_⟩
            · exact (hs3.after (by repeat (first | exact Below.refl _ _ | assumption | refine Below.drew ?_ | refine below_drewN ?_ _ | refine Below.alloc ?_ (by first | (simp; done) | omega | (simp; omega)) _ | refine Below.setCell ?_ (by first | (simp; done) | omega | (simp; omega)) _))).grown hg3 fun b hb e => by have := (hown2.block b e.symm).1; omega
            · exact hown3.imp fun x _ v h => h.imp fun A n c l h => ((h.lt.after (by repeat (first | exact Below.refl _ _ | assumption | refine Below.drew ?_ | refine below_drewN ?_ _ | refine Below.alloc ?_ (by first | (simp; done) | omega | (simp; omega)) _ | refine Below.setCell ?_ (by first | (simp; done) | omega | (simp; omega)) _))).grown hg3 fun b h e => h.1.2 e.symm).mono fun b h _ => ⟨h.1.1, fun e => (hwh3 b e).elim h.1.2 fun h5 => by have h6 := h.2; simp at h5; omega⟩
            · exact Below.grown (by repeat (first | exact Below.refl _ _ | assumption | refine Below.drew ?_ | refine below_drewN ?_ _ | refine Below.alloc ?_ (by first | (simp; done) | omega | (simp; omega)) _ | refine Below.setCell ?_ (by first | (simp; done) | omega | (simp; omega)) _)) hg3 (by simp; omega) fun b e => (hown2.block b e).1
          case measure => simp [intOf]; omega
      · obtain rfl : k = n := by omega
        go_wp2_with fail
        go_ret3
        obtain rfl := HK.symm.trans HR2.out
        exact ⟨_, _, _, _, _, _, rfl, ((hown.arr (by decide)).mono fun b h _ => h.1).imp fun x _ v h => h.imp fun A n c l h => h.mono fun b h _ => h.1, hcur.mono fun _ h _ => h.1, hbel⟩

theorem getMultis_any {S : Nat → Prop} {A : Option Addr} {m c : Nat} {bs : B} {w : World} (hs : Sl S w A m c bs) (hm : m ≤ 140737488355328) (r : Res (List (B × List B))) (hr : getL multiR bs = r) :
    Calls Tryz.prog 53 #[.slice A m c] w fun e w' => ∃ A1 n1 c1 A2 n2 c2, e = .returned (.tuple #[.slice A1 n1 c1, .slice A2 n2 c2, .int .i64 (rerr r)]) ∧ Arr 2 (multiP (fun b => w.heap.size ≤ b) w') (fun b => w.heap.size ≤ b) w' A1 n1 c1 (rval [] r) ∧ Sl S w' A2 n2 c2 (rrest r) ∧ Below w.heap.size w w' := by
  have HR := Lib.hid hr; clear hr
  go_enter Tryz.func53, Tryz.ntmps53
  go_wp2_with fail
  refine (getm_any hs hm r HR.out).mono ?_
  rintro e w1 ⟨A1, n1, c1, A2, n2, c2, rfl, ho, hs2, hb⟩
  go_wp2_with fail
  go_ret3
  exact ⟨_, _, _, _, _, _, rfl, ho, hs2, hb⟩

end Go.Proofs.Sb
