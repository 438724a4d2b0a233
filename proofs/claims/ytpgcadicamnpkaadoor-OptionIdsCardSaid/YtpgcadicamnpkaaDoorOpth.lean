/- Walks over option.reader's option, option.Get. Conditions: the table of names reads as it was laid; lengths up to 2^47. (written by gen_optread.py) -/
import Derived.Test.YtpgcadicamnpkaaDoorOpthy
import Derived.Test.YtpgcadicamnpkaaDoorOpthf
import Derived.Test.YtpgcadicamnpkaaDoorOpthu
import Derived.Test.YtpgcadicamnpkaaDoorOpthn
set_option linter.unusedVariables false
set_option linter.unusedSimpArgs false
namespace Go.Proofs.Sb
open Go.RowKit _root_.Sb

theorem readO_all : ∀ n : Nat, ReadO n := by
  intro n
  induction n with
  | zero =>
    intro S w X s deep hrd hS hX hpl hdn hd1
    cases s with
    | error ee => exact readO_err hrd hS hX hpl hdn hd1
    | ok cur => exact readO_deep (n := 0) hrd hS hX hpl (by omega)
  | succ n ih =>
    intro S w X s deep hrd hS hX hpl hdn hd1
    cases s with
    | error ee => exact readO_err hrd hS hX hpl hdn hd1
    | ok cur =>
      cases hg : getN 2 cur with
      | error ee => exact readO_short hrd hS hX hpl (by omega) hd1 hg
      | ok p =>
        obtain ⟨id, rs⟩ := p
        by_cases hk : kn id = -2
        · exact readO_bad hrd hS hX hpl (by omega) hd1 hg hk
        · by_cases h0 : id = 0
          · subst h0; exact readO_0 hrd hS hX hpl (by omega) hd1 hg
          · by_cases hk0 : 0 ≤ kn id
            · exact readO_else ih hrd hS hX hpl (by omega) hd1 hg hk0 h0
            · have hr := kn_range id
              rcases kn_many (id := id) (by omega) with h | h
              · subst h; exact readO_48 ih hrd hS hX hpl (by omega) hd1 hg
              · subst h; exact readO_49 ih hrd hS hX hpl (by omega) hd1 hg
theorem getO_ne : ∀ {n : Nat} {b : B} {e : Int}, getO n b = .error e → e ≠ 0 := by
  intro n
  induction n with
  | zero => intro b e h; injection h with h; omega
  | succ n ih =>
    intro b e h
    have hm : ∀ {id k : Nat} {c : B} {e : Int}, getsM (kidR (getO n) id) k c = .error e → e ≠ 0 := by
      intro id k
      induction k with
      | zero => intro c e h; cases h
      | succ k ihk =>
        intro c e h
        simp only [getsM] at h
        cases h1 : kidR (getO n) id c with
        | error e1 =>
          rw [h1] at h
          injection h with h
          subst h
          unfold kidR bothR nameR at h1
          by_cases h48 : id = 48
          · rw [if_pos h48] at h1
            cases h2 : getText c with
            | error e2 => rw [h2] at h1; injection h1 with h1; subst h1; exact gt_ne h2
            | ok x =>
              rw [h2] at h1
              simp only at h1
              cases h3 : getO n x.2 with
              | error e3 => rw [h3] at h1; injection h1 with h1; subst h1; exact ih h3
              | ok y => rw [h3] at h1; cases h1
          · rw [if_neg h48] at h1
            simp only at h1
            cases h3 : getO n c with
            | error e3 => rw [h3] at h1; injection h1 with h1; subst h1; exact ih h3
            | ok y => rw [h3] at h1; cases h1
        | ok p =>
          rw [h1] at h
          simp only at h
          cases h2 : getsM (kidR (getO n) id) k p.2 with
          | error e2 => rw [h2] at h; injection h with h; subst h; exact ihk h2
          | ok q => rw [h2] at h; cases h
    have hfin : ∀ {id m : Nat} {hd : B × B} {c : B} {e : Int}, (match getsM (kidR (getO n) id) m c with | .error e => .error e | .ok (l, r) => .ok (mkO id hd l, r) : Res Opt) = .error e → e ≠ 0 := by
      intro id m hd c e h
      cases h1 : getsM (kidR (getO n) id) m c with
      | error e1 => rw [h1] at h; injection h with h; subst h; exact hm h1
      | ok p => rw [h1] at h; cases h
    simp only [getO] at h
    cases h1 : getN 2 b with
    | error e1 => rw [h1] at h; injection h with h; subst h; have := getN_err h1; omega
    | ok p =>
      rw [h1] at h
      simp only at h
      by_cases h2 : kn p.1 = -2
      · rw [if_pos h2] at h; injection h with h; omega
      · rw [if_neg h2] at h
        cases h3 : headR p.1 p.2 with
        | error e1 =>
          rw [h3] at h
          injection h with h
          subst h
          unfold headR bothR at h3
          by_cases h48 : p.1 = 48
          · rw [if_pos h48] at h3
            cases h4 : getText p.2 with
            | error e2 => rw [h4] at h3; injection h3 with h3; subst h3; exact gt_ne h4
            | ok x =>
              rw [h4] at h3
              simp only at h3
              cases h5 : getText x.2 with
              | error e3 => rw [h5] at h3; injection h3 with h3; subst h3; exact gt_ne h5
              | ok y => rw [h5] at h3; cases h3
          · rw [if_neg h48] at h3
            by_cases h0 : p.1 = 0
            · rw [if_pos h0] at h3
              cases h4 : getText p.2 with
              | error e2 => rw [h4] at h3; injection h3 with h3; subst h3; exact gt_ne h4
              | ok x => rw [h4] at h3; cases h3
            · rw [if_neg h0] at h3; cases h3
        | ok q =>
          rw [h3] at h
          simp only at h
          cases h4 : cntR p.1 q.2 with
          | error e1 =>
            rw [h4] at h
            injection h with h
            subst h
            unfold cntR at h4
            split at h4
            · have := getN_err h4; omega
            · cases h4
          | ok t =>
            rw [h4] at h
            exact hfin h

set_option maxHeartbeats 4000000 in
set_option maxRecDepth 100000 in
theorem oGet_any {S : Nat → Prop} {A : Option Addr} {m c : Nat} {bs : B} {w : World} (hs : Sl S w A m c bs) (hm : m ≤ 140737488355328) (hpl : Pl w) (r : Res Opt) (hr : getO 20 bs = r) :
    Calls Tryd.prog 16 #[.slice A m c] w fun e w' => ∃ A1 n1 c1 A2 n2 c2 A3 n3 c3, e = .returned (.tuple #[optV (rval Opt.none r) A1 n1 c1 A2 n2 c2, .slice A3 n3 c3, .int .i64 (rerr r)]) ∧ OptR (fun b => w.heap.size ≤ b) w' 9223372036854775807 20 A1 n1 c1 A2 n2 c2 (rval Opt.none r) ∧ Sl S w' A3 n3 c3 (rrest r) ∧ Below w.heap.size w w' := by
  have HS := Lib.hid hs.lt; clear hs
  have HPL := Lib.hid hpl; clear hpl
  have HR := Lib.hid hr; clear hr
  go_enter Tryd.func16, Tryd.ntmps16
  go_wp2_with fail
  refine (readO_all 20 (S := fun b => S b ∧ b < w.heap.size) (X := w.heap.size + 1) (s := .ok bs) (deep := 1) ⟨A, m, c, by go_simp, by go_simp, fun o => by go_simp, fun cur e => by (injection e with e; subst e; exact ⟨HS.out.after (by repeat (first | exact Below.refl _ _ | assumption | refine Below.drew ?_ | refine below_drewN ?_ _ | refine Below.alloc ?_ (by first | (simp; done) | omega | (simp; omega)) _ | refine Below.setCell ?_ (by first | (simp; done) | omega | (simp; omega)) _)), hm⟩), fun e h => (by cases h)⟩ (fun b h => by have := h.2; omega) (by omega) (HPL.out.after (by repeat (first | exact Below.refl _ _ | assumption | refine Below.drew ?_ | refine below_drewN ?_ _ | refine Below.alloc ?_ (by first | (simp; done) | omega | (simp; omega)) _ | refine Below.setCell ?_ (by first | (simp; done) | omega | (simp; omega)) _))) (by decide) (by decide)).mono ?_
  rintro e w1 ⟨A1, n1, c1, A2, n2, c2, o, s', rfl, ho, ha, hg, hp⟩
  have hR1 : BoxAt w1 w.heap.size (.int .u16 0) (.string (str [])) (.string (str [])) (.slice none 0 0) (.slice none 0 0) := ((box_new w _ _ _ _ _ _).after (by repeat (first | exact Below.refl _ _ | assumption | refine Below.drew ?_ | refine below_drewN ?_ _ | refine Below.alloc ?_ (by first | (simp; done) | omega | (simp; omega)) _ | refine Below.setCell ?_ (by first | (simp; done) | omega | (simp; omega)) _))).grown hg (fun e => by injection e with e; omega)
  have hX1 := ha.lt
  have hR1l := hR1.lt
  have hpp := hp.1 bs rfl r HR.out
  clear hp
  have HA := Lib.hid ha
  obtain ⟨AX, nX, cX, x0, x1, x2, x3, x4⟩ := ha
  have HO := Lib.hid ho; clear ho
  have r0 := hR1.c0
  have r1 := hR1.c1
  have r2 := hR1.c2
  have r3 := hR1.c3
  have r4 := hR1.c4
  have f0 := hR1.fr 0
  have f1 := hR1.fr 1
  have f2 := hR1.fr 2
  have f3 := hR1.fr 3
  have f4 := hR1.fr 4
  have hb01 : Below w.heap.size w w1 := below_grow (by repeat (first | exact Below.refl _ _ | assumption | refine Below.drew ?_ | refine below_drewN ?_ _ | refine Below.alloc ?_ (by first | (simp; done) | omega | (simp; omega)) _ | refine Below.setCell ?_ (by first | (simp; done) | omega | (simp; omega)) _)) hg (by simp; omega) (fun b e => by injection e with e; omega)
  clear hR1 hg x2
  cases r with
  | error er =>
    have hs' := hpp.2 er rfl
    subst hs'
    have hne : er ≠ 0 := getO_ne HR.out
    simp only [werr_error] at x1
    clear hpp x3
    have HB5 := Lib.hid (below_grow hb01 (grow5 w1 w.heap.size (.int .u16 0) (.string ⟨#[]⟩) (.string ⟨#[]⟩) (.slice none 0 0) (.slice none 0 0)) (by omega) (fun b e => by injection e with e; omega))
    go_wp2_with fail
    refine regt_start (by kernel_rfl) ?_
    (refine regt_take 0 (v := ?_) (by rfl) (by kernel_rfl) (by kernel_rfl) (by kernel_rfl) (by exact fun _ _ _ h => h) (by rfl) ?_ ?_; rotate_left; focus (intro w hSw; go_simp; try with_reducible rfl))
    simp only [Act.put, List.setIfInBounds_toArray, List.set_cons_zero, List.set_cons_succ]
    (refine regt_take 1 (v := ?_) (by rfl) (by kernel_rfl) (by kernel_rfl) (by kernel_rfl) (by exact fun _ _ _ h => h) (by rfl) ?_ ?_; rotate_left; focus (intro w hSw; go_simp; try with_reducible rfl))
    simp only [Act.put, List.setIfInBounds_toArray, List.set_cons_zero, List.set_cons_succ]
    (refine regt_take 2 (v := ?_) (by rfl) (by kernel_rfl) (by kernel_rfl) (by kernel_rfl) (by exact fun _ _ _ h => h) (by rfl) ?_ ?_; rotate_left; focus (intro w hSw; go_simp; try with_reducible rfl))
    simp only [Act.put, List.setIfInBounds_toArray, List.set_cons_zero, List.set_cons_succ]
    (refine regt_take 3 (v := ?_) (by rfl) (by kernel_rfl) (by kernel_rfl) (by kernel_rfl) (by exact fun _ _ _ h => h) (by rfl) ?_ ?_; rotate_left; focus (intro w hSw; go_simp; try with_reducible rfl))
    simp only [Act.put, List.setIfInBounds_toArray, List.set_cons_zero, List.set_cons_succ]
    refine regt_two 4 5 (by kernel_rfl) (by rfl) (by rfl) (fun K hK => ?_) (fun K hK => ?_)
    focus
      go_simp
      refine hK.out _ _ (trivial) ?_
      clear hK K
      try simp only [Act.put, List.setIfInBounds_toArray, List.set_cons_zero, List.set_cons_succ]
      refine regt_call 5 (by kernel_rfl) (by rfl) (fun K hK => ?_)
      go_simp
      refine hK.out _ _ (trivial) ?_
      clear hK K
      try simp only [Act.put, List.setIfInBounds_toArray, List.set_cons_zero, List.set_cons_succ]
      (refine regt_take 6 (v := ?_) (by rfl) (by kernel_rfl) (by kernel_rfl) (by kernel_rfl) (by exact fun _ _ _ h => h) (by rfl) ?_ ?_; rotate_left; focus (intro w hSw; go_simp; try with_reducible rfl))
      simp only [Act.put, List.setIfInBounds_toArray, List.set_cons_zero, List.set_cons_succ]
      (refine regt_take 7 (v := ?_) (by rfl) (by kernel_rfl) (by kernel_rfl) (by kernel_rfl) (by exact fun _ _ _ h => h) (by rfl) ?_ ?_; rotate_left; focus (intro w hSw; go_simp; try with_reducible rfl))
      simp only [Act.put, List.setIfInBounds_toArray, List.set_cons_zero, List.set_cons_succ]
      refine wpAnyH_done (by kernel_rfl) ?_ _
    rotate_left 1
    focus
      go_simp
      refine hK.out _ _ (trivial) ?_
      clear hK K
      try simp only [Act.put, List.setIfInBounds_toArray, List.set_cons_zero, List.set_cons_succ]
      (refine regt_take 6 (v := ?_) (by rfl) (by kernel_rfl) (by kernel_rfl) (by kernel_rfl) (by exact fun _ _ _ h => h) (by rfl) ?_ ?_; rotate_left; focus (intro w hSw; go_simp; try with_reducible rfl))
      simp only [Act.put, List.setIfInBounds_toArray, List.set_cons_zero, List.set_cons_succ]
      refine regt_call 4 (by kernel_rfl) (by rfl) (fun K hK => ?_)
      go_simp
      refine hK.out _ _ (trivial) ?_
      clear hK K
      try simp only [Act.put, List.setIfInBounds_toArray, List.set_cons_zero, List.set_cons_succ]
      (refine regt_take 7 (v := ?_) (by rfl) (by kernel_rfl) (by kernel_rfl) (by kernel_rfl) (by exact fun _ _ _ h => h) (by rfl) ?_ ?_; rotate_left; focus (intro w hSw; go_simp; try with_reducible rfl))
      simp only [Act.put, List.setIfInBounds_toArray, List.set_cons_zero, List.set_cons_succ]
      refine wpAnyH_done (by kernel_rfl) ?_ _
    all_goals
      go_wp2_with fail
      refine bodyPost_ret (v := .tuple #[.agg #[.int .u16 0, .string ⟨#[]⟩, .string ⟨#[]⟩, .slice none 0 0, .slice none 0 0], .slice none 0 0, .int .i64 er]) (by simp [results, Tryd.results16]; go_simp) rfl ?_
      simp only [rval_error, rerr_error, rrest_error]
      refine ⟨none, 0, 0, none, 0, 0, none, 0, 0, ?_, ?_, ?_, ?_⟩
      · rfl
      · exact OptR.none
      · exact Sl.nil
      · exact Below.drew (Below.alloc HB5.out (by simp; omega) _)
  | ok p =>
    obtain ⟨ho', hs'⟩ := hpp.1 p.1 p.2 rfl
    subst ho' hs'
    have hX := (x3 p.2 rfl).1
    have HX := Lib.hid hX; clear hX
    simp only [werr_ok] at x1
    clear hpp x3
    have hg5 := grow5 w1 w.heap.size (.int .u16 (p.1.id : Int)) (.string (str p.1.space)) (.string (str p.1.name)) (.slice A1 n1 c1) (.slice A2 n2 c2)
    have HO5 := Lib.hid ((HO.out.grown hg5 (fun b (h : _ ≤ b) e => by injection e with e; simp at h; omega)).mono (S' := fun b => w.heap.size ≤ b) fun b (h : _ ≤ b) _ => by simp at h; omega)
    have HX5 := Lib.hid ((HX.out.grown hg5 (fun b h e => by injection e with e; have := h.2; omega)).mono (S' := S) fun b h _ => h.1)
    have HB5 := Lib.hid (below_grow hb01 hg5 (by omega) (fun b e => by injection e with e; omega)); clear hg5
    go_wp2_with fail
    refine regt_start (by kernel_rfl) ?_
    (refine regt_take 1 (v := ?_) (by rfl) (by kernel_rfl) (by kernel_rfl) (by kernel_rfl) (by exact fun _ _ _ h => h) (by rfl) ?_ ?_; rotate_left; focus (intro w hSw; go_simp; try with_reducible rfl))
    simp only [Act.put, List.setIfInBounds_toArray, List.set_cons_zero, List.set_cons_succ]
    (refine regt_take 2 (v := ?_) (by rfl) (by kernel_rfl) (by kernel_rfl) (by kernel_rfl) (by exact fun _ _ _ h => h) (by rfl) ?_ ?_; rotate_left; focus (intro w hSw; go_simp; try with_reducible rfl))
    simp only [Act.put, List.setIfInBounds_toArray, List.set_cons_zero, List.set_cons_succ]
    (refine regt_take 3 (v := ?_) (by rfl) (by kernel_rfl) (by kernel_rfl) (by kernel_rfl) (by exact fun _ _ _ h => h) (by rfl) ?_ ?_; rotate_left; focus (intro w hSw; go_simp; try with_reducible rfl))
    simp only [Act.put, List.setIfInBounds_toArray, List.set_cons_zero, List.set_cons_succ]
    refine regt_two 0 4 (by kernel_rfl) (by rfl) (by rfl) (fun K hK => ?_) (fun K hK => ?_)
    focus
      go_simp
      refine hK.out _ _ (trivial) ?_
      clear hK K
      try simp only [Act.put, List.setIfInBounds_toArray, List.set_cons_zero, List.set_cons_succ]
      refine regt_two 4 5 (by kernel_rfl) (by rfl) (by rfl) (fun K hK => ?_) (fun K hK => ?_)
      focus
        go_simp
        refine hK.out _ _ (trivial) ?_
        clear hK K
        try simp only [Act.put, List.setIfInBounds_toArray, List.set_cons_zero, List.set_cons_succ]
        refine regt_call 5 (by kernel_rfl) (by rfl) (fun K hK => ?_)
        go_simp
        refine hK.out _ _ (trivial) ?_
        clear hK K
        try simp only [Act.put, List.setIfInBounds_toArray, List.set_cons_zero, List.set_cons_succ]
        (refine regt_take 6 (v := ?_) (by rfl) (by kernel_rfl) (by kernel_rfl) (by kernel_rfl) (by exact fun _ _ _ h => h) (by rfl) ?_ ?_; rotate_left; focus (intro w hSw; go_simp; try with_reducible rfl))
        simp only [Act.put, List.setIfInBounds_toArray, List.set_cons_zero, List.set_cons_succ]
        (refine regt_take 7 (v := ?_) (by rfl) (by kernel_rfl) (by kernel_rfl) (by kernel_rfl) (by exact fun _ _ _ h => h) (by rfl) ?_ ?_; rotate_left; focus (intro w hSw; go_simp; try with_reducible rfl))
        simp only [Act.put, List.setIfInBounds_toArray, List.set_cons_zero, List.set_cons_succ]
        refine wpAnyH_done (by kernel_rfl) ?_ _
      rotate_left 1
      focus
        go_simp
        refine hK.out _ _ (trivial) ?_
        clear hK K
        try simp only [Act.put, List.setIfInBounds_toArray, List.set_cons_zero, List.set_cons_succ]
        refine regt_call 4 (by kernel_rfl) (by rfl) (fun K hK => ?_)
        go_simp
        refine hK.out _ _ (trivial) ?_
        clear hK K
        try simp only [Act.put, List.setIfInBounds_toArray, List.set_cons_zero, List.set_cons_succ]
        (refine regt_take 6 (v := ?_) (by rfl) (by kernel_rfl) (by kernel_rfl) (by kernel_rfl) (by exact fun _ _ _ h => h) (by rfl) ?_ ?_; rotate_left; focus (intro w hSw; go_simp; try with_reducible rfl))
        simp only [Act.put, List.setIfInBounds_toArray, List.set_cons_zero, List.set_cons_succ]
        (refine regt_take 7 (v := ?_) (by rfl) (by kernel_rfl) (by kernel_rfl) (by kernel_rfl) (by exact fun _ _ _ h => h) (by rfl) ?_ ?_; rotate_left; focus (intro w hSw; go_simp; try with_reducible rfl))
        simp only [Act.put, List.setIfInBounds_toArray, List.set_cons_zero, List.set_cons_succ]
        refine wpAnyH_done (by kernel_rfl) ?_ _
    rotate_left 2
    focus
      go_simp
      refine hK.out _ _ (trivial) ?_
      clear hK K
      try simp only [Act.put, List.setIfInBounds_toArray, List.set_cons_zero, List.set_cons_succ]
      refine regt_call 0 (by kernel_rfl) (by rfl) (fun K hK => ?_)
      go_simp
      refine hK.out _ _ (trivial) ?_
      clear hK K
      try simp only [Act.put, List.setIfInBounds_toArray, List.set_cons_zero, List.set_cons_succ]
      refine regt_call 5 (by kernel_rfl) (by rfl) (fun K hK => ?_)
      go_simp
      refine hK.out _ _ (trivial) ?_
      clear hK K
      try simp only [Act.put, List.setIfInBounds_toArray, List.set_cons_zero, List.set_cons_succ]
      (refine regt_take 6 (v := ?_) (by rfl) (by kernel_rfl) (by kernel_rfl) (by kernel_rfl) (by exact fun _ _ _ h => h) (by rfl) ?_ ?_; rotate_left; focus (intro w hSw; go_simp; try with_reducible rfl))
      simp only [Act.put, List.setIfInBounds_toArray, List.set_cons_zero, List.set_cons_succ]
      (refine regt_take 7 (v := ?_) (by rfl) (by kernel_rfl) (by kernel_rfl) (by kernel_rfl) (by exact fun _ _ _ h => h) (by rfl) ?_ ?_; rotate_left; focus (intro w hSw; go_simp; try with_reducible rfl))
      simp only [Act.put, List.setIfInBounds_toArray, List.set_cons_zero, List.set_cons_succ]
      refine wpAnyH_done (by kernel_rfl) ?_ _
    all_goals
      go_wp2_with fail
      refine bodyPost_ret (v := .tuple #[.agg #[.int .u16 (p.1.id : Int), .string (str p.1.space), .string (str p.1.name), .slice A1 n1 c1, .slice A2 n2 c2], .slice AX nX cX, .int .i64 0]) (by simp [results, Tryd.results16]; go_simp) rfl ?_
      exact ⟨A1, n1, c1, A2, n2, c2, AX, nX, cX, rfl, HO5.out.after (Below.drew (Below.alloc (Below.refl _ _) (Nat.le_refl _) _)), HX5.out.after (Below.drew (Below.alloc (Below.refl _ _) (Nat.le_refl _) _)), Below.drew (Below.alloc HB5.out (by simp; omega) _)⟩
end Go.Proofs.Sb
