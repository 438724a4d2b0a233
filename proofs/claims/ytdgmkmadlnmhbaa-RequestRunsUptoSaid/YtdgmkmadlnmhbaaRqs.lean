/- Walk over request.reader's values. Conditions: lengths up to 2^47. (written by gen_rqvals.py) -/
import Derived.Test.YtdgmkmadlnmhbaaRqr
import Derived.Deep.DeepCutAuto
set_option linter.unusedVariables false
set_option linter.unusedSimpArgs false
namespace Go.Proofs.Sb
open Go.RowKit _root_.Sb

/-- a value in two cells -/
def valP (S : Nat → Prop) (w : World) (v : Val) (c : List Value) : Prop := ∃ A n k, c = [.int .i64 v.kind, .slice A n k] ∧ Sl S w A n k v.bytes
theorem goesVal (v : Val) (c : List Value) : Goes fun S w => valP S w v c := ⟨fun ⟨A, n, k, e, h⟩ hs hk => ⟨A, n, k, e, goesSl.keep h hs hk⟩, fun ⟨A, n, k, e, h⟩ hS => ⟨A, n, k, e, goesSl.mono h hS⟩⟩
theorem valP_one {S : Nat → Prop} {w : World} (v : Val) (c : List Value) (h : valP S w v c) : ∀ u ∈ c, u.oneCell' = true := by
  obtain ⟨A, n, k, rfl, _⟩ := h
  intro u hu
  simp at hu
  rcases hu with rfl | rfl <;> rfl
theorem tyVal : Ty 25 28 2 32 (.agg #[.int .i64 0, .slice none 0 0]) := ⟨Try.underlying25, by kernel_rfl, rfl, by decide⟩
theorem RdAt.fr {S T : Nat → Prop} {w w' : World} {X : Nat} {s : Wr} (h : RdAt S w X s) (hf : Fr T w w') (hX : ¬ T X) (hS : ∀ b, S b → ¬ T b) : RdAt S w' X s := by
  have hlt := h.lt
  obtain ⟨A, n, c, h0, h1, h2, h3, h4⟩ := h
  exact ⟨A, n, c, hf.cell hX h0, hf.cell hX h1, fun o => hf.froz hX hlt (h2 o), fun cur e => ⟨goesSl.keep (h3 cur e).1 hf.size fun b hb hl => hf.block b hl (hS b hb), (h3 cur e).2⟩, h4⟩
theorem Bs.grown {ρ : Nat → Nat} {X : Nat} {W w : World} (h : Bs ρ (fun b => b = X) W w) : W.grownBy w (some X) := ⟨h.fr.os, h.fr.tape, h.fr.output, h.fr.size, fun b hb hn => h.fr.block b hb fun e => hn (by rw [e])⟩
/-- old blocks but the reader's have role 0: what the reader reads -/
theorem Bs.zero {ρ : Nat → Nat} {T : Nat → Prop} {W w : World} (h : Bs ρ T W w) {r : Nat} (hr : (0 : Nat) ≠ r) {b : Nat} (hb : b < W.heap.size) (hT : ¬ T b) : ¬ ρ b = r := fun e => hr ((h.role b hb hT).symm.trans e)
theorem Bs.ge' {ρ : Nat → Nat} {X r : Nat} {W w : World} (h : Bs ρ (fun b => b = X) W w) (hX : ρ X = 9) {b : Nat} (hb : ρ b = r) (h0 : r ≠ 0) (h9 : r ≠ 9) : W.heap.size ≤ b := by
  rcases Nat.lt_or_ge b W.heap.size with h1 | h1
  · by_cases e : b = X
    · subst e; exact absurd (hb.symm.trans hX) h9
    · exact absurd (hb.symm.trans (h.role b h1 e)) h0
  · exact h1

theorem vals_R (named : Bool) (s : Wr) : gR (getVals named) s = gR (getsM (entR named) (gV 0 (getN 2) s)) (gR (getN 2) s) := gR_bind 0 (getN 2) (fun n r => getsM (entR named) n r) s
theorem nms_snoc_t (l : List (B × Val)) (p : B × Val) : nmsV true (l ++ [p]) = nmsV true l ++ [p.1] := by simp [nmsV]
theorem nms_snoc_f (l : List (B × Val)) (p : B × Val) : nmsV false (l ++ [p]) = nmsV false l := by simp [nmsV]
theorem nmsV_len (named : Bool) (l : List (B × Val)) : (nmsV named l).length ≤ l.length := by cases named <;> simp [nmsV]
set_option maxHeartbeats 8000000 in
set_option maxRecDepth 100000 in
theorem rvalues_any {S : Nat → Prop} {w : World} {X : Nat} {s : Wr} {named : Bool} (h : RdAt S w X s) (hS : ∀ b, S b → b ≠ X) :
    Calls Try.prog 76 #[.pointer (some ⟨X, 0, none⟩), .bool named] w fun e w' => ∃ A1 n1 c1 A2 n2 c2 l, e = .returned (.tuple #[.slice A1 n1 c1, .slice A2 n2 c2]) ∧ Arr 2 (valP (fun b => w.heap.size ≤ b) w') (fun b => w.heap.size ≤ b) w' A1 n1 c1 (l.map (·.2)) ∧ Arr 1 strP (fun b => w.heap.size ≤ b) w' A2 n2 c2 (nmsV named l) ∧ RdAt S w' X (gR (getVals named) s) ∧ w.grownBy w' (some X) ∧ Tie (getVals named) s l := by
  have hlt := h.lt
  have HS := Lib.hid hS; clear hS
  have hA0 : RdAt (fun b => S b ∧ b < w.heap.size) w X s := by
    obtain ⟨A, n, c, h0, h1, h2, h3, h4⟩ := h
    exact ⟨A, n, c, h0, h1, h2, fun cur e => ⟨(h3 cur e).1.lt, (h3 cur e).2⟩, h4⟩
  have HA := Lib.hid hA0; clear hA0 h
  have HVR := Lib.hid (vals_R named s)
  have HTI := Lib.hid (fun l (h : Tie (getsM (entR named) (gV 0 (getN 2) s)) (gR (getN 2) s) l) => (tie_bind (f := fun n r => getsM (entR named) n r) h : Tie (getVals named) s l))
  go_enter Try.func76, Try.ntmps76
  go_wp2_with fail
  refine (rnumq_any (k := 2) HA.out (fun b h => HS.out b h.1) (by omega) (by omega)).mono ?_
  rintro e w1 ⟨rfl, ha1, hg1⟩
  have HA1 := Lib.hid ha1; clear ha1
  have hM := gV_lt (n := 2) s
  generalize gV 0 (getN 2) s = M at *
  have hρX : xt (fun b => if b = X then 9 else 0) w.heap.size 5 X = 9 := by rw [xt_lt hlt, if_pos rfl]
  have HB1 : Hid (Bs (xt (fun b => if b = X then 9 else 0) w.heap.size 5) (fun b => b = X) w w1) := ⟨fun b hb hT => by rw [xt_lt hb, if_neg hT], Fr.of_grown hg1 fun b e => by injection e with e; exact e.symm⟩
  clear hg1
  go_wp2_with fail
  go_loopw [6, 7, 8] (fun a b n wr => ∃ ρ k l st A1 m1 d1 A2 m2 d2, k ≤ M ∧ n = .int .u64 ((M - k : Nat) : Int) ∧ a = .slice A1 m1 d1 ∧ b = .slice A2 m2 d2 ∧ Hid (l.length = k) ∧ Hid (OwnS 28 2 (valP (Rl ρ 5) wr) (Rl ρ 4) wr A1 m1 d1 (l.map (·.2))) ∧ Hid (OwnS 9 1 strP (Rl ρ 3) wr A2 m2 d2 (nmsV named l)) ∧ Hid (RdAt (fun b => S b ∧ b < w.heap.size) wr X st) ∧ Hid (Bs ρ (fun b => b = X) w wr) ∧ ρ X = 9 ∧ Hid (PrgG (entR named) M (gR (getN 2) s) k l st)) (fun _ _ n _ => (intOf n).toNat)
  case atStart => exact ⟨_, 0, [], gR (getN 2) s, none, 0, 0, none, 0, 0, by omega, by first | rfl | simp, rfl, rfl, rfl, OwnS.nil, (by cases named <;> exact OwnS.nil), HA1, HB1, hρX, PrgG.zero _ _ _⟩
  case round =>
    obtain ⟨ρ, k, l, st, A1, m1, d1, A2, m2, d2, hk, rfl, rfl, rfl, HL, HK, HN, HAr, HB, hρ9, HP⟩ := hrel
    have hzr := HB.out.size
    have hXr : X < wr.heap.size := by omega
    by_cases hlt2 : k < M
    · cases st with
      | error e =>
        obtain ⟨hst, hti⟩ := HP.out.fin (.inr ⟨e, rfl⟩)
        have hpos : 0 < M - k := by omega
        have hposI : (0 : Int) < ((M - k : Nat) : Int) := by omega
        have hne : e ≠ 0 := by obtain ⟨_, _, _, _, _, _, _, g4⟩ := HAr.out; exact g4 e rfl
        have hne2 : (e == 0) = false := by simpa using hne

        have HTL := Lib.hid (HTI.out l hti); clear hti
        have HF := Lib.hid hst; clear hst
        have HGE := Lib.hid (fun b r (h1 : ρ b = r) (h2 : r ≠ 0) (h3 : r ≠ 9) => HB.out.ge' hρ9 h1 h2 h3)
        obtain ⟨AX, nX, cX, g0, g1, g2, g3, g4⟩ := HAr.out
        clear g0 g2 g3 g4
        simp only [werr_error] at g1
        go_wp2_with fail
        go_ret2
        refine ⟨A1, m1, d1, A2, m2, d2, l, rfl, ((HK.out.arr (by decide)).mono fun b hb _ => HGE.out b 4 hb (by decide) (by decide)).imp fun x _ v hp => (goesVal x v).mono hp fun b hb _ => HGE.out b 5 hb (by decide) (by decide), (HN.out.arr (by decide)).mono fun b hb _ => HGE.out b 3 hb (by decide) (by decide), ?_, HB.out.grown, HTL.out⟩
        rw [HVR.out, ← HF.out]
        exact HAr.out.monoS fun b hb => hb.1
      | ok rest =>
        obtain ⟨AX, nX, cX, g0, g1, g2, g3, g4⟩ := HAr.out
        simp only [werr_ok] at g1
        clear g0 g2 g3 g4
        have hpos : 0 < M - k := by omega
        have hposI : (0 : Int) < ((M - k : Nat) : Int) := by omega
        cases named with
        | false =>
          go_wp2_with fail

          refine (rdx_value HAr.out (fun b h => HS.out b h.1)).mono ?_
          rintro e5 w5 ⟨⟨B1, u1, v1, rfl, hs5⟩, ha5, hg5⟩
          have hf5 : Fr (Rl ρ 9) _ w5 := Fr.of_grown hg5 (fun b e => by injection e with e; subst e; exact hρ9)
          obtain ⟨ρ5, hx5⟩ : ∃ ρ5, ρ5 = xt ρ (wr).heap.size 5 := ⟨_, rfl⟩
          have hρ5 : ρ5 X = 9 := by rw [hx5, xt_lt (by omega)]; exact hρ9
          have HA5 := Lib.hid ha5; clear ha5
          have HK5 := Lib.hid ((HK.out.stepx hf5 hx5).deepx goesVal hf5 hx5)
          have HN5 := Lib.hid (HN.out.stepx hf5 hx5)
          have HB5 := Lib.hid (HB.out.stepx hf5 hx5)
          have hz5 := HB5.out.size
          have hy5 : X < w5.heap.size := by omega
          have HV5 : Hid (Sl (Rl ρ5 5) w5 B1 u1 v1 _) := hs5.mono fun b hb _ => by show ρ5 b = 5; rw [hx5]; exact xt_ge hb
          clear hs5

          have hm1 : m1 ≤ 65536 := by have := HK5.out.len (by decide); rw [List.length_map] at this; have := HL.out; omega
          go_wp2_with (first | (at_builtin; refine wpList_appX rfl tyVal _ _ rfl (ρ := ρ5) (r := 4) _ _ _ (l.map (·.2)) rfl (HK5.out.after ((Below.refl _ _).alloc (Nat.le_refl _) _)) _ _ _ _ [gV Val.none getValue (.ok rest)] rfl (arr_lit (P := valP (Rl ρ5 5) w5) _ #[.int .i64 (gV Val.none getValue (.ok rest)).kind, .slice B1 u1 v1] (gV Val.none getValue (.ok rest)) rfl ⟨B1, u1, v1, rfl, HV5.out⟩ (by simp)) (fun _ _ h => valP_one _ _ h) (fun _ _ _ h => h) (by omega) (by unfold maxLen; omega) ?_; intro A6 m6 d6 w6 ρ6 hx6 hown6 hf6))
          have hba : Below w5.heap.size w5 (w5.alloc _) := (Below.refl _ _).alloc (Nat.le_refl _) (.cells #[.int .i64 (gV Val.none getValue (.ok rest)).kind, .slice B1 u1 v1] 28)
          have HK6 := Lib.hid ((hown6.deepA goesVal hba).deepx goesVal hf6 hx6)
          have HN6 := Lib.hid ((HN5.out.after hba).stepx hf6 hx6)
          have HB6 := Lib.hid ((HB5.out.after hba).stepx hf6 hx6)
          have hρ6 : ρ6 X = 9 := by rw [hx6, xt_lt (by simp; omega)]; exact hρ5
          have HA6 := Lib.hid ((HA5.out.after hba).fr hf6 (by show ¬ ρ5 X = 4; rw [hρ5]; decide) (fun b hb => HB5.out.zero (by decide) hb.2 (HS.out b hb.1)))
          have HP6 := Lib.hid (HP.out.step hlt2 ([], gV Val.none getValue (.ok rest)) (ent_R false (.ok rest)).2)
          rw [(ent_R false (.ok rest)).1] at HP6
          clear hba hown6 hf6
          go_wp2_with fail
          refine ⟨⟨ρ6, k + 1, l ++ [([], gV Val.none getValue (.ok rest))], _, A6, m6, d6, A2, m2, d2, by omega, by congr 1; omega, rfl, rfl, (by have := HL.out; show (l ++ [_]).length = k + 1; rw [List.length_append, this]; rfl), HK6.out.as (by simp), HN6.out.as (nms_snoc_f l ([], gV Val.none getValue (.ok rest))).symm, HA6, HB6, hρ6, HP6⟩, by simp [intOf]; omega⟩
        | true =>
          go_wp2_with fail

          refine (rdx_text HAr.out (fun b h => HS.out b h.1)).mono ?_
          rintro e3 w3 ⟨rfl, ha3, hg3⟩
          have hf3 : Fr (Rl ρ 9) _ w3 := Fr.of_grown hg3 (fun b e => by injection e with e; subst e; exact hρ9)
          obtain ⟨ρ3, hx3⟩ : ∃ ρ3, ρ3 = xt ρ (wr).heap.size 5 := ⟨_, rfl⟩
          have hρ3 : ρ3 X = 9 := by rw [hx3, xt_lt (by omega)]; exact hρ9
          have HA3 := Lib.hid ha3; clear ha3
          have HK3 := Lib.hid ((HK.out.stepx hf3 hx3).deepx goesVal hf3 hx3)
          have HN3 := Lib.hid (HN.out.stepx hf3 hx3)
          have HB3 := Lib.hid (HB.out.stepx hf3 hx3)
          have hz3 := HB3.out.size
          have hy3 : X < w3.heap.size := by omega


          have hm2 : m2 ≤ 65536 := by have := HN3.out.len (by decide); have := nmsV_len true l; have := HL.out; omega
          have hsl : (gV [] getText (.ok rest)).length ≤ 9223372036854775807 := by have := gV_text getText (fun b x r h => by have := getText_ok h; obtain ⟨y, h1, h2⟩ := text_fore b x r h; have h3 := text_len h1; rw [← h2, h3.2.2]; simp only [List.length_append, enc_length]; omega) (.ok rest) (fun cur h => by injection h with h; subst h; obtain ⟨A, n, c, _, _, _, h3, _⟩ := HAr.out; have := (h3 _ rfl).2; have := (h3 _ rfl).1.len; omega); omega
          generalize hsv : gV [] getText (.ok rest) = sv at *
          go_wp2_with (first | (at_builtin; refine wpList_appX rfl tyStr _ _ rfl (ρ := ρ3) (r := 3) _ _ _ (nmsV true l) rfl (HN3.out.after ((Below.refl _ _).alloc (Nat.le_refl _) _)) _ _ _ _ [sv] rfl (arr_lit (P := strP) _ #[.string (str sv)] sv rfl ⟨rfl, hsl⟩ (by simp)) strP_one (fun _ _ _ h => h) (by omega) (by unfold maxLen; omega) ?_; intro A4 m4 d4 w4 ρ4 hx4 hown4 hf4))
          have hba : Below w3.heap.size w3 (w3.alloc _) := (Below.refl _ _).alloc (Nat.le_refl _) (.cells #[.string (str sv)] 9)
          have HN4 := Lib.hid hown4
          have HK4 := Lib.hid (((HK3.out.after hba).deepA goesVal hba).stepx hf4 hx4 |>.deepx goesVal hf4 hx4)
          have HB4 := Lib.hid ((HB3.out.after hba).stepx hf4 hx4)
          have hρ4 : ρ4 X = 9 := by rw [hx4, xt_lt (by simp; omega)]; exact hρ3
          have HA4 := Lib.hid ((HA3.out.after hba).fr hf4 (by show ¬ ρ3 X = 3; rw [hρ3]; decide) (fun b hb => HB3.out.zero (by decide) hb.2 (HS.out b hb.1)))
          have hz4 := HB4.out.size
          have hy4 : X < w4.heap.size := by omega
          clear hba hown4 hf4

          refine (rdx_value HA4.out (fun b h => HS.out b h.1)).mono ?_
          rintro e5 w5 ⟨⟨B1, u1, v1, rfl, hs5⟩, ha5, hg5⟩
          have hf5 : Fr (Rl ρ4 9) _ w5 := Fr.of_grown hg5 (fun b e => by injection e with e; subst e; exact hρ4)
          obtain ⟨ρ5, hx5⟩ : ∃ ρ5, ρ5 = xt ρ4 (w4).heap.size 5 := ⟨_, rfl⟩
          have hρ5 : ρ5 X = 9 := by rw [hx5, xt_lt (by omega)]; exact hρ4
          have HA5 := Lib.hid ha5; clear ha5
          have HK5 := Lib.hid ((HK4.out.stepx hf5 hx5).deepx goesVal hf5 hx5)
          have HN5 := Lib.hid (HN4.out.stepx hf5 hx5)
          have HB5 := Lib.hid (HB4.out.stepx hf5 hx5)
          have hz5 := HB5.out.size
          have hy5 : X < w5.heap.size := by omega
          have HV5 : Hid (Sl (Rl ρ5 5) w5 B1 u1 v1 _) := hs5.mono fun b hb _ => by show ρ5 b = 5; rw [hx5]; exact xt_ge hb
          clear hs5

          have hm1 : m1 ≤ 65536 := by have := HK5.out.len (by decide); rw [List.length_map] at this; have := HL.out; omega
          go_wp2_with (first | (at_builtin; refine wpList_appX rfl tyVal _ _ rfl (ρ := ρ5) (r := 4) _ _ _ (l.map (·.2)) rfl (HK5.out.after ((Below.refl _ _).alloc (Nat.le_refl _) _)) _ _ _ _ [gV Val.none getValue (gR getText (.ok rest))] rfl (arr_lit (P := valP (Rl ρ5 5) w5) _ #[.int .i64 (gV Val.none getValue (gR getText (.ok rest))).kind, .slice B1 u1 v1] (gV Val.none getValue (gR getText (.ok rest))) rfl ⟨B1, u1, v1, rfl, HV5.out⟩ (by simp)) (fun _ _ h => valP_one _ _ h) (fun _ _ _ h => h) (by omega) (by unfold maxLen; omega) ?_; intro A6 m6 d6 w6 ρ6 hx6 hown6 hf6))
          have hba : Below w5.heap.size w5 (w5.alloc _) := (Below.refl _ _).alloc (Nat.le_refl _) (.cells #[.int .i64 (gV Val.none getValue (gR getText (.ok rest))).kind, .slice B1 u1 v1] 28)
          have HK6 := Lib.hid ((hown6.deepA goesVal hba).deepx goesVal hf6 hx6)
          have HN6 := Lib.hid ((HN5.out.after hba).stepx hf6 hx6)
          have HB6 := Lib.hid ((HB5.out.after hba).stepx hf6 hx6)
          have hρ6 : ρ6 X = 9 := by rw [hx6, xt_lt (by simp; omega)]; exact hρ5
          have HA6 := Lib.hid ((HA5.out.after hba).fr hf6 (by show ¬ ρ5 X = 4; rw [hρ5]; decide) (fun b hb => HB5.out.zero (by decide) hb.2 (HS.out b hb.1)))
          have HP6 := Lib.hid (HP.out.step hlt2 (gV [] getText (.ok rest), gV Val.none getValue (gR getText (.ok rest))) (ent_R true (.ok rest)).2)
          rw [(ent_R true (.ok rest)).1] at HP6
          simp only [if_true] at HP6
          rw [hsv] at HP6
          clear hba hown6 hf6
          go_wp2_with fail
          refine ⟨⟨ρ6, k + 1, l ++ [(sv, gV Val.none getValue (gR getText (.ok rest)))], _, A6, m6, d6, A4, m4, d4, by omega, by congr 1; omega, rfl, rfl, (by have := HL.out; show (l ++ [_]).length = k + 1; rw [List.length_append, this]; rfl), HK6.out.as (by simp), HN6.out.as (nms_snoc_t l (sv, gV Val.none getValue (gR getText (.ok rest)))).symm, HA6, HB6, hρ6, HP6⟩, by simp [intOf]; omega⟩
    · obtain rfl : k = M := by omega
      obtain ⟨hst, hti⟩ := HP.out.fin (.inl rfl)
      have hz0 : k - k = 0 := Nat.sub_self k

      have HTL := Lib.hid (HTI.out l hti); clear hti
      have HF := Lib.hid hst; clear hst
      have HGE := Lib.hid (fun b r (h1 : ρ b = r) (h2 : r ≠ 0) (h3 : r ≠ 9) => HB.out.ge' hρ9 h1 h2 h3)
      obtain ⟨AX, nX, cX, g0, g1, g2, g3, g4⟩ := HAr.out
      clear g0 g2 g3 g4
      go_wp2_with fail
      go_ret2
      refine ⟨A1, m1, d1, A2, m2, d2, l, rfl, ((HK.out.arr (by decide)).mono fun b hb _ => HGE.out b 4 hb (by decide) (by decide)).imp fun x _ v hp => (goesVal x v).mono hp fun b hb _ => HGE.out b 5 hb (by decide) (by decide), (HN.out.arr (by decide)).mono fun b hb _ => HGE.out b 3 hb (by decide) (by decide), ?_, HB.out.grown, HTL.out⟩
      rw [HVR.out, ← HF.out]
      exact HAr.out.monoS fun b hb => hb.1
end Go.Proofs.Sb

/- Walk over the closure has of request.reader's run. Conditions: lengths up to 2^47. (written by gen_rqrun.py) -/
namespace Sb
def okB : Wr → Bool | .ok _ => true | .error _ => false
end Sb
namespace Go.Proofs.Sb
open Go.RowKit _root_.Sb

theorem bit_and : ∀ (f : Fin 256) (k : Fin 7), (bits .and .u8 ((f : Nat) : Int) ((2 ^ (k : Nat) : Nat) : Int) != 0) = bitB f k := by decide +kernel
set_option maxRecDepth 100000 in
theorem has_any {S : Nat → Prop} {w : World} {X pr pf f k : Nat} {fl : Int} {s : Wr} (h : RdAt S w X s) (hpr : w.cell? ⟨pr, 0, none⟩ = some (.pointer (some ⟨X, 0, none⟩))) (hpf : w.cell? ⟨pf, 0, none⟩ = some (.int .u8 (f : Int))) (hf : f < 256) (hk : k < 7) (hfl : fl = ((2 ^ k : Nat) : Int)) :
    Calls Try.prog 75 #[.int .u8 fl, .pointer (some ⟨pr, 0, none⟩), .pointer (some ⟨pf, 0, none⟩)] w fun e w' => e = .returned (.bool (okB s && bitB f k)) ∧ w = w' := by
  have hb := bit_and ⟨f, hf⟩ ⟨k, hk⟩
  simp only at hb
  rw [← hfl] at hb
  clear hfl
  obtain ⟨v, hv⟩ : ∃ v, bits .and .u8 (f : Int) fl = v := ⟨_, rfl⟩
  rw [hv] at hb
  generalize bitB f k = bb at *
  obtain ⟨A, n, c, h0, h1, h2, h3, h4⟩ := h
  cases s with
  | error e =>
    have hne : e ≠ 0 := h4 e rfl
    have hne2 : (e == 0) = false := by simpa using hne
    simp only [werr_error] at h1
    clear h3 h4 h2
    go_enter Try.func75, Try.ntmps75
    go_wp2_with fail
    go_ret
    exact ⟨rfl, rfl⟩
  | ok cur =>
    simp only [werr_ok] at h1
    clear h3 h4 h2
    go_enter Try.func75, Try.ntmps75
    go_wp2_with fail
    go_ret
    exact ⟨by simp [okB, hb], rfl⟩
end Go.Proofs.Sb
