/- Plain mathematics of bodies of requests: what is put is got but for what a body has not, and what is got is put as it was. No conditions. -/
import Derived.Test.YtdgmkmadlnmhbaaRqf
import Derived.Test.YtdgmkmadlnmhbaaRqm
set_option linter.unusedVariables false
set_option linter.unusedSimpArgs false
namespace Sb
theorem lt1 {x : Nat} (h : x < 256) : x < 256 ^ 1 := by simpa using h
theorem lt2 {x : Nat} (h : x < 65536) : x < 256 ^ 2 := by simpa using h
theorem bindR_inv {α β : Type} {r : Res α} {f : α → B → Res β} {y : β} {t : B} (h : bindR r f = .ok (y, t)) : ∃ x b, r = .ok (x, b) ∧ f x b = .ok (y, t) := by
  cases r with
  | error e => cases h
  | ok p => exact ⟨p.1, p.2, rfl, h⟩
theorem pure_inv {α : Type} {x y : α} {b t : B} (h : (.ok (x, b) : Res α) = .ok (y, t)) : x = y ∧ b = t := by
  injection h with h; injection h with h1 h2; exact ⟨h1, h2⟩
theorem opt_fore {α : Type} {f : α → Wr} {g : B → Res α} {c : Bool} {d : α} (F : Fore f g) {b r : B} {x : α} (h : optR c d g b = .ok (x, r)) : ∃ y, optQ c (f x) = .ok y ∧ y ++ r = b ∧ (c = false → x = d) := by
  cases c with
  | false => obtain ⟨rfl, rfl⟩ := pure_inv h; exact ⟨[], rfl, rfl, fun _ => rfl⟩
  | true => obtain ⟨y, h1, h2⟩ := F b x r h; exact ⟨y, h1, h2, fun e => by cases e⟩
theorem opt_back {α β : Type} {D : α → Prop} {f : α → Wr} {g : B → Res β} {h : α → β} (H : Back D f g h) {c : Bool} {d : β} {x : α} {b : B} (r : B) (hD : D x) (hb : optQ c (f x) = .ok b) : optR c d g (b ++ r) = .ok (if c then h x else d, r) := by
  cases c with
  | false => injection hb with hb; subst hb; rfl
  | true => exact H x b r hD hb
def pgW (i : Int) : Wr := .ok (enc 4 (i % 4294967296).toNat)
def tmW (i : Int) : Wr := .ok (enc 8 (i % 18446744073709551616).toNat)
theorem pg_back : Back (fun i : Int => -2147483648 ≤ i ∧ i ≤ 2147483647) pgW getNum id := by
  intro i b r hi h
  injection h with h
  subst h
  rw [getNum_back (by omega)]
  unfold sgn
  simp only [Nat.reducePow, Nat.reduceDiv, id]
  split <;> (congr 2; omega)
theorem pg_fore : Fore pgW getNum := by
  intro b n r h
  obtain ⟨x, rfl, hx, hb⟩ := getNum_fore h
  refine ⟨_, rfl, ?_⟩
  have : (sgn 4 x % 4294967296).toNat = x := by
    unfold sgn
    simp only [Nat.reducePow, Nat.reduceDiv]
    split <;> omega
  rw [this]
  exact hb
theorem tm_back : Back (fun i : Int => -9223372036854775808 ≤ i ∧ i ≤ 9223372036854775807) tmW getI8 id := by
  intro i b r hi h
  injection h with h
  subst h
  unfold getI8
  rw [bindR_ok (getN_back (by have : (256 : Nat) ^ 8 = 18446744073709551616 := by decide
                              omega))]
  unfold sgn
  simp only [Nat.reducePow, Nat.reduceDiv, id]
  split <;> (congr 2; omega)
theorem tm_fore : Fore tmW getI8 := by
  intro b n r h
  obtain ⟨x, b1, h1, h2⟩ := bindR_inv h
  obtain ⟨rfl, rfl⟩ := pure_inv h2
  have hx := (getN_ok h1).2.2.2
  refine ⟨_, rfl, ?_⟩
  have : (sgn 8 x % 18446744073709551616).toNat = x := by
    unfold sgn
    simp only [Nat.reducePow, Nat.reduceDiv] at hx ⊢
    split <;> omega
  rw [this]
  exact getN_fore h1
def nmW (nm : Bool) (x : B) : Wr := if nm then text x else .ok []
theorem nm_back (nm : Bool) : Back (fun _ => True) (nmW nm) (nmR nm) (fun x => if nm then x else []) := by
  cases nm with
  | true => exact text_back _
  | false => intro x b r _ h; injection h with h; subst h; rfl
theorem nm_fore (nm : Bool) : Fore (nmW nm) (nmR nm) := by
  cases nm with
  | true => exact text_fore
  | false => intro b x r h; obtain ⟨rfl, rfl⟩ := pure_inv h; exact ⟨[], rfl, rfl⟩
theorem ent_back (nm : Bool) : Back (fun p : B × Val => val31 p.2) (entQ nm) (entR nm) (fun p => (if nm then p.1 else [], p.2.norm)) :=
  (both_back (nm_back nm) value_back).mono fun _ h => ⟨trivial, h⟩
theorem ent_fore (nm : Bool) : Fore (entQ nm) (entR nm) := both_fore (nm_fore nm) value_fore
theorem cnt_ok {n : Nat} {b : B} (h : cntQ n = .ok b) : n ≤ 65535 ∧ b = enc 2 n := by
  unfold cntQ at h
  split at h
  · cases h
  · injection h with h; exact ⟨by omega, h.symm⟩
theorem els_snd {names : List B} {l : List Val} (h : names = [] ∨ names.length = l.length) : (elsQ names l).map (·.2) = l := by
  unfold elsQ
  split
  · rw [List.map_map]; exact List.map_id l
  · rcases h with h | h
    · contradiction
    · exact List.map_snd_zip (by omega)
theorem els_fst {names : List B} {l : List Val} (hn : names ≠ []) (h : names.length = l.length) : (elsQ names l).map (·.1) = names := by
  unfold elsQ
  rw [if_neg hn]
  exact List.map_fst_zip (by omega)
theorem vals_back {names : List B} {l : List Val} {b : B} (r : B) (hn : names = [] ∨ names.length = l.length) (hl : ∀ v ∈ l, val31 v) (h : valsQ names l = .ok b) :
    ∃ m, getVals (decide (names ≠ [])) (b ++ r) = .ok (m, r) ∧ m.map (·.2) = l.map Val.norm ∧ nmsV (decide (names ≠ [])) m = names ∧ m.length = l.length := by
  unfold valsQ at h
  obtain ⟨a, c, h1, h2, rfl⟩ := bothW_ok h
  obtain ⟨hc, rfl⟩ := cnt_ok h1
  have hel : (elsQ names l).length = l.length := els_len hn
  refine ⟨(elsQ names l).map (fun p => (if decide (names ≠ []) then p.1 else [], p.2.norm)), ?_, ?_, ?_, by rw [List.length_map, hel]⟩
  · unfold getVals
    rw [List.append_assoc, bindR_ok (getN_back (lt2 (by omega))), ← hel]
    refine putsM_back (ent_back _) _ _ _ (fun x hx => ?_) h2
    exact hl _ (by rw [← els_snd hn]; exact List.mem_map_of_mem hx)
  · rw [List.map_map]
    calc _ = ((elsQ names l).map (·.2)).map Val.norm := by rw [List.map_map]; rfl
      _ = _ := by rw [els_snd hn]
  · by_cases hne : names = []
    · subst hne; rfl
    · rcases hn with hn | hn
      · contradiction
      · rw [show decide (names ≠ []) = true from decide_eq_true hne]
        unfold nmsV
        rw [if_pos rfl, List.map_map]
        exact els_fst hne hn
theorem puts_noname : ∀ l : List (B × Val), putsM (entQ false) (l.map fun p => ([], p.2)) = putsM (entQ false) l
  | [] => rfl
  | x :: l => by rw [List.map_cons, putsM_cons, putsM_cons, puts_noname l]; rfl
theorem vals_fore {nm : Bool} {b r : B} {l : List (B × Val)} (h : getVals nm b = .ok (l, r)) : ∃ y, valsQ (nmsV nm l) (l.map (·.2)) = .ok y ∧ y ++ r = b := by
  obtain ⟨n, b1, h1, h2⟩ := bindR_inv h
  obtain ⟨hl, y, h3, h4⟩ := getsM_fore (ent_fore nm) n b1 l r h2
  have hn := (getN_ok h1).2.2.2
  simp only [Nat.reducePow] at hn
  refine ⟨enc 2 n ++ y, ?_, by rw [List.append_assoc, h4]; exact getN_fore h1⟩
  have e1 : cntQ (l.map (·.2)).length = .ok (enc 2 n) := by unfold cntQ; rw [List.length_map, hl, if_neg (by omega)]
  have e2 : putsM (entQ (decide (nmsV nm l ≠ []))) (elsQ (nmsV nm l) (l.map (·.2))) = .ok y := by
    cases nm with
    | false =>
      show putsM (entQ false) ((l.map (·.2)).map fun v => ([], v)) = _
      rw [List.map_map]
      exact (puts_noname l).trans h3
    | true =>
      by_cases hl0 : l = []
      · subst hl0; exact h3
      · have hm : l.map (·.1) ≠ [] := fun e => hl0 (List.map_eq_nil_iff.1 e)
        show putsM (entQ (decide (l.map (·.1) ≠ []))) (elsQ (l.map (·.1)) (l.map (·.2))) = _
        rw [decide_eq_true hm]
        unfold elsQ
        rw [if_neg hm]
        have : (l.map (·.1)).zip (l.map (·.2)) = l := by
          clear hm hl0 e1 h h2 h3 h4 hl
          induction l with
          | nil => rfl
          | cons x l ih => rw [List.map_cons, List.map_cons, List.zip_cons_cons, ih]
        rw [this]
        exact h3
  unfold valsQ
  rw [e1, e2]
  rfl
/-- a run as it is got -/
def Par.norm (p : Par) : Par := ⟨p.cons, p.values.map Val.norm, p.names, p.skip, p.paged, (if p.paged then p.page else 0), p.resumed, (if p.resumed then p.state.norm else Val.none), p.serially, (if p.serially then p.serial else 0), p.timed, (if p.timed then p.time else 0)⟩
def Par31 (p : Par) : Prop := (∀ v ∈ p.values, val31 v) ∧ val31 p.state
theorem fl7_ok : ∀ a b c d e f g : Bool, (g = true → a = true) → ∀ bt : Bool, (!bt || noB (fl7 a b c d e f g)) = true → flagsOk bt (fl7 a b c d e f g) = true := by
  intro a b c d e f g
  revert a b c d e f g
  decide +kernel
theorem valsR_back {p : Par} {f : Nat} {b : B} (r : B) (q0 : bitB f 0 = decide (0 < p.values.length)) (q6 : bitB f 6 = decide (0 < p.names.length)) (hn : p.names.length = 0 ∨ p.names.length = p.values.length) (hl : ∀ v ∈ p.values, val31 v)
    (h : optQ (decide (0 < p.values.length)) (valsQ p.names p.values) = .ok b) : ∃ m, valsR f (b ++ r) = .ok (m, r) ∧ m.map (·.2) = p.values.map Val.norm ∧ nmsV (bitB f 6) m = p.names := by
  have hd : decide (0 < p.names.length) = decide (p.names ≠ []) := by cases p.names <;> simp
  unfold valsR
  rw [q0, q6, hd]
  by_cases h0 : 0 < p.values.length
  · rw [decide_eq_true h0] at h ⊢
    obtain ⟨m, h1, h2, h3, h4⟩ := vals_back r (hn.imp (fun e => List.length_eq_zero_iff.1 e) id) hl h
    refine ⟨m, ?_, h2, h3⟩
    show bindR (getVals (decide (p.names ≠ [])) (b ++ r)) _ = _
    rw [bindR_ok h1, if_neg (by omega)]
  · rw [decide_eq_false h0] at h ⊢
    injection h with h
    subst h
    have e1 : p.values = [] := List.length_eq_zero_iff.1 (by omega)
    have e2 : p.names = [] := List.length_eq_zero_iff.1 (by omega)
    rw [e1, e2]
    exact ⟨[], rfl, rfl, rfl⟩
theorem run_back {bt : Bool} {p : Par} {b : B} (r : B) (hp : ParN p) (h3 : Par31 p) (h : runQ bt p = .ok b) : getRun bt (b ++ r) = .ok (p.norm, r) := by
  obtain ⟨b1, t1, e1, i1, rfl⟩ := bothW_ok (show bothW _ _ = _ from h)
  obtain ⟨b2, t2, e2, i2, rfl⟩ := bothW_ok i1
  obtain ⟨b3, t3, e3, i3, rfl⟩ := bothW_ok i2
  obtain ⟨b4, t4, e4, i4, rfl⟩ := bothW_ok i3
  obtain ⟨b5, t5, e5, i5, rfl⟩ := bothW_ok i4
  obtain ⟨b6, t6, e6, i6, rfl⟩ := bothW_ok i5
  obtain ⟨b7, t7, e7, e8, rfl⟩ := bothW_ok i6
  have hok : runOk bt p = true ∧ b2 = [] := by
    unfold mustQ at e2
    split at e2
    · injection e2 with e2; exact ⟨‹_›, e2.symm⟩
    · cases e2
  obtain ⟨hok, rfl⟩ := hok
  injection e3 with e3
  subst e3
  unfold runOk at hok
  rw [Bool.and_eq_true, Bool.or_eq_true, beq_iff_eq, beq_iff_eq] at hok
  obtain ⟨hnm, hbt⟩ := hok
  obtain ⟨q0, q1, q2, q3, q4, q5, q6⟩ := fl7_bit (decide (0 < p.values.length)) p.skip p.paged p.resumed p.serially p.timed (decide (0 < p.names.length))
  have hlt := fl7_lt (decide (0 < p.values.length)) p.skip p.paged p.resumed p.serially p.timed (decide (0 < p.names.length))
  have hfo : flagsOk bt (flP p) = true := fl7_ok _ _ _ _ _ _ _ (fun e => by rw [decide_eq_true_eq] at e ⊢; omega) bt hbt
  change bitB (flP p) 0 = _ at q0; change bitB (flP p) 1 = _ at q1; change bitB (flP p) 2 = _ at q2; change bitB (flP p) 3 = _ at q3
  change bitB (flP p) 4 = _ at q4; change bitB (flP p) 5 = _ at q5; change bitB (flP p) 6 = _ at q6
  change flP p < 128 at hlt
  obtain ⟨m, hv, m1, m2⟩ := valsR_back (p := p) (f := flP p) (b5 ++ (b6 ++ (b7 ++ (t7 ++ r)))) q0 q6 hnm h3.1 e4
  have hpg := opt_back pg_back (d := (0 : Int)) (b6 ++ (b7 ++ (t7 ++ r))) hp.page e5
  have hst := opt_back value_back (d := Val.none) (b7 ++ (t7 ++ r)) h3.2 e6
  have hsr := opt_back cons_back (d := 0) (t7 ++ r) trivial e7
  have htm := opt_back tm_back (d := (0 : Int)) r hp.time e8
  unfold getRun
  simp only [List.append_assoc]
  rw [bindR_ok (cons_back _ _ _ trivial e1), List.nil_append, bindR_ok (getN_back (lt1 (by omega))), if_neg (by rw [hfo]; decide), bindR_ok hv, q2, bindR_ok hpg, q3, bindR_ok hst, q4, bindR_ok hsr, q5, bindR_ok htm]
  unfold parOf Par.norm
  rw [m1, m2, q1, q2, q3, q4, q5]
  rfl
theorem fl7_of : ∀ f : Nat, f < 128 → fl7 (bitB f 0) (bitB f 1) (bitB f 2) (bitB f 3) (bitB f 4) (bitB f 5) (bitB f 6) = f := by decide +kernel
theorem noB_of : ∀ f : Nat, f < 128 → (f % 16 = 0 ∧ f < 64) → noB f = true := by decide +kernel
theorem run_fore (bt : Bool) : Fore (runQ bt) (getRun bt) := by
  intro b p r h
  obtain ⟨c, b1, h1, h⟩ := bindR_inv h
  obtain ⟨f, b2, h2, h⟩ := bindR_inv h
  by_cases hf : flagsOk bt f = false
  · rw [if_pos hf] at h; cases h
  rw [if_neg hf] at h
  obtain ⟨l, b3, h3, h⟩ := bindR_inv h
  obtain ⟨pg, b4, h4, h⟩ := bindR_inv h
  obtain ⟨st, b5, h5, h⟩ := bindR_inv h
  obtain ⟨sr, b6, h6, h⟩ := bindR_inv h
  obtain ⟨tm, b7, h7, h⟩ := bindR_inv h
  obtain ⟨rfl, rfl⟩ := pure_inv h
  rw [Bool.not_eq_false] at hf
  unfold flagsOk at hf
  rw [Bool.and_eq_true, Bool.and_eq_true, decide_eq_true_eq] at hf
  obtain ⟨⟨hf1, hf2⟩, hf3⟩ := hf
  obtain ⟨y1, k1, rfl⟩ := cons_fore b c b1 h1
  have k2 := getN_fore h2
  obtain ⟨y4, k4, k4', _⟩ := opt_fore pg_fore h4
  obtain ⟨y5, k5, k5', _⟩ := opt_fore value_fore h5
  obtain ⟨y6, k6, k6', _⟩ := opt_fore cons_fore h6
  obtain ⟨y7, k7, k7', _⟩ := opt_fore tm_fore h7
  have hvl : ∃ y3, optQ (decide (0 < (l.map (·.2)).length)) (valsQ (nmsV (bitB f 6) l) (l.map (·.2))) = .ok y3 ∧ y3 ++ b3 = b2 ∧ decide (0 < (l.map (·.2)).length) = bitB f 0 ∧ decide (0 < (nmsV (bitB f 6) l).length) = bitB f 6 ∧ ((nmsV (bitB f 6) l).length = 0 ∨ (nmsV (bitB f 6) l).length = (l.map (·.2)).length) := by
    unfold valsR at h3
    cases hb : bitB f 0 with
    | false =>
      rw [hb] at h3 hf2
      obtain ⟨rfl, rfl⟩ := pure_inv h3
      have hb6 : bitB f 6 = false := by simpa using hf2
      rw [hb6]
      exact ⟨[], rfl, rfl, rfl, rfl, .inl rfl⟩
    | true =>
      rw [hb] at h3
      obtain ⟨l', bx, g1, g2⟩ := bindR_inv h3
      by_cases h0 : l'.length = 0
      · rw [if_pos h0] at g2; cases g2
      rw [if_neg h0] at g2
      obtain ⟨rfl, rfl⟩ := pure_inv g2
      obtain ⟨y3, g3, g4⟩ := vals_fore g1
      have hl1 : 0 < (l'.map (·.2)).length := by rw [List.length_map]; omega
      refine ⟨y3, by rw [decide_eq_true hl1]; exact g3, g4, decide_eq_true hl1, ?_, ?_⟩
      · unfold nmsV
        cases bitB f 6 with
        | false => rfl
        | true => exact decide_eq_true (by rw [if_pos rfl, List.length_map]; omega)
      · unfold nmsV
        cases bitB f 6 with
        | false => exact .inl rfl
        | true => exact .inr (by rw [if_pos rfl, List.length_map, List.length_map])
  obtain ⟨y3, k3, k3', u1, u2, u3⟩ := hvl
  have hfl : flP (parOf c f l pg st sr tm) = f := by
    show fl7 (decide (0 < (l.map (·.2)).length)) (bitB f 1) (bitB f 2) (bitB f 3) (bitB f 4) (bitB f 5) (decide (0 < (nmsV (bitB f 6) l).length)) = f
    rw [u1, u2]
    exact fl7_of f hf1
  have hok : runOk bt (parOf c f l pg st sr tm) = true := by
    unfold runOk
    rw [hfl, Bool.and_eq_true, Bool.or_eq_true, beq_iff_eq, beq_iff_eq]
    refine ⟨u3, ?_⟩
    cases bt with
    | false => rfl
    | true =>
      rw [Bool.not_true, Bool.false_or, decide_eq_true_eq] at hf3
      rw [Bool.not_true, Bool.false_or]
      exact noB_of f hf1 hf3
  refine ⟨y1 ++ (([] : B) ++ (enc 1 f ++ (y3 ++ (y4 ++ (y5 ++ (y6 ++ y7)))))), ?_, ?_⟩
  · have e2 : mustQ (runOk bt (parOf c f l pg st sr tm)) = .ok [] := by rw [hok]; rfl
    have e3 : optQ (decide (0 < (parOf c f l pg st sr tm).values.length)) (valsQ (parOf c f l pg st sr tm).names (parOf c f l pg st sr tm).values) = .ok y3 := k3
    have e4 : optQ (parOf c f l pg st sr tm).paged (.ok (enc 4 ((parOf c f l pg st sr tm).page % 4294967296).toNat)) = .ok y4 := k4
    have e5 : optQ (parOf c f l pg st sr tm).resumed (value (parOf c f l pg st sr tm).state) = .ok y5 := k5
    have e6 : optQ (parOf c f l pg st sr tm).serially (cons (parOf c f l pg st sr tm).serial) = .ok y6 := k6
    have e7 : optQ (parOf c f l pg st sr tm).timed (.ok (enc 8 ((parOf c f l pg st sr tm).time % 18446744073709551616).toNat)) = .ok y7 := k7
    have e1 : cons (parOf c f l pg st sr tm).cons = .ok y1 := k1
    unfold runQ
    rw [e1, e2, e3, e4, e5, e6, e7, hfl]
    rfl
  · simp only [List.append_assoc, List.nil_append]
    rw [k7', k6', k5', k4', k3', k2]
/-- a statement as it is got -/
def Stm.norm (x : Stm) : Stm := if x.prepared then ⟨true, [], x.ident, x.values.map Val.norm⟩ else ⟨false, x.text, [], x.values.map Val.norm⟩
def Stm31 (x : Stm) : Prop := short31 x.text ∧ ∀ v ∈ x.values, val31 v
theorem stm_back : Back Stm31 stmQ getStm Stm.norm := by
  intro x b r hx h
  obtain ⟨b1, t1, e1, h1, rfl⟩ := bothW_ok (show bothW _ _ = _ from h)
  obtain ⟨b2, t2, e2, e3, rfl⟩ := bothW_ok h1
  injection e1 with e1
  subst e1
  obtain ⟨m, g1, g2, _⟩ := vals_back r (.inl rfl) hx.2 e3
  replace g1 : getVals false (t2 ++ r) = .ok (m, r) := g1
  unfold getStm
  simp only [List.append_assoc]
  cases hp : x.prepared with
  | true =>
    rw [hp] at e2
    simp only [if_true] at e2 ⊢
    rw [bindR_ok (getN_back (by decide)), if_neg (by decide), bindR_ok (bindR_ok (text_back (fun _ => True) _ _ (t2 ++ r) trivial e2)), bindR_ok g1]
    unfold Stm.norm
    rw [hp, if_pos rfl, g2]
    rfl
  | false =>
    rw [hp] at e2
    simp only [Bool.false_eq_true, if_false] at e2 ⊢
    rw [bindR_ok (getN_back (by decide)), if_neg (by decide), if_neg (by decide), bindR_ok (bindR_ok (long_back _ _ (t2 ++ r) hx.1 e2)), bindR_ok g1]
    unfold Stm.norm
    rw [hp, if_neg (by decide), g2]
    rfl
theorem stm_fore : Fore stmQ getStm := by
  intro b x r h
  obtain ⟨k, b1, h1, h⟩ := bindR_inv h
  by_cases hk : 1 < k
  · rw [if_pos hk] at h; cases h
  rw [if_neg hk] at h
  obtain ⟨s, b2, h2, h⟩ := bindR_inv h
  obtain ⟨l, b3, h3, h⟩ := bindR_inv h
  obtain ⟨rfl, rfl⟩ := pure_inv h
  obtain ⟨y3, g3, rfl⟩ := vals_fore h3
  have k1 := getN_fore h1
  by_cases hk1 : k = 1
  · rw [if_pos hk1] at h2
    obtain ⟨t, b4, g4, g5⟩ := bindR_inv h2
    obtain ⟨rfl, rfl⟩ := pure_inv g5
    obtain ⟨y4, g6, rfl⟩ := text_fore _ _ _ g4
    subst hk1
    refine ⟨enc 1 1 ++ (y4 ++ y3), ?_, by simp only [List.append_assoc]; exact k1⟩
    show bothW (.ok (enc 1 1)) (bothW (text t) (valsQ [] (l.map (·.2)))) = _
    rw [g6, show valsQ [] (l.map (·.2)) = .ok y3 from g3]
    rfl
  · rw [if_neg hk1] at h2
    obtain ⟨t, b4, g4, g5⟩ := bindR_inv h2
    obtain ⟨rfl, rfl⟩ := pure_inv g5
    obtain ⟨y4, g6, rfl⟩ := long_fore _ _ _ g4
    obtain rfl : k = 0 := by omega
    refine ⟨enc 1 0 ++ (y4 ++ y3), ?_, by simp only [List.append_assoc]; exact k1⟩
    show bothW (.ok (enc 1 0)) (bothW (.ok (long t)) (valsQ [] (l.map (·.2)))) = _
    rw [show (.ok (long t) : Wr) = .ok y4 from g6, show valsQ [] (l.map (·.2)) = .ok y3 from g3]
    rfl
/-- a request as it is got -/
def Rq.norm (q : Rq) : Rq :=
  if q.opcode = 1 then { Rq.of 1 with options := q.options }
  else if q.opcode = 5 then Rq.of 5
  else if q.opcode = 7 then { Rq.of 7 with text := q.text, run := q.run.norm }
  else if q.opcode = 9 then { Rq.of 9 with text := q.text }
  else if q.opcode = 10 then { Rq.of 10 with ident := q.ident, run := q.run.norm }
  else if q.opcode = 11 then { Rq.of 11 with events := q.events }
  else if q.opcode = 15 then { Rq.of 15 with token := q.token.norm }
  else { Rq.of 13 with kind := q.kind, all := q.all.map Stm.norm, run := q.run.norm }
structure Rq31 (q : Rq) : Prop where
  text : short31 q.text
  run : Par31 q.run
  num : ParN q.run
  token : val31 q.token
  all : ∀ x ∈ q.all, Stm31 x
theorem rq_back {q : Rq} {b : B} (H : Rq31 q) (h : putRq q = .ok b) : getRq q.opcode b = .ok q.norm := by
  have key : getParts q.opcode b = .ok (q.norm, []) := by
    rw [← List.append_nil b]
    unfold putRq at h
    unfold getParts Rq.norm
    by_cases h1 : q.opcode = 1
    · rw [if_pos h1] at h
      rw [if_pos h1, if_pos h1, bindR_ok (pairs_back' h), h1]
    rw [if_neg h1] at h; rw [if_neg h1, if_neg h1]
    by_cases h5 : q.opcode = 5
    · rw [if_pos h5] at h
      injection h with h; subst h
      rw [if_pos h5, if_pos h5, h5]; rfl
    rw [if_neg h5] at h; rw [if_neg h5, if_neg h5]
    by_cases h7 : q.opcode = 7
    · rw [if_pos h7] at h
      obtain ⟨a, c, e1, e2, rfl⟩ := bothW_ok h
      rw [if_pos h7, if_pos h7, List.append_assoc, bindR_ok (long_back _ _ _ H.text e1), bindR_ok (run_back _ H.num H.run e2), h7]; rfl
    rw [if_neg h7] at h; rw [if_neg h7, if_neg h7]
    by_cases h9 : q.opcode = 9
    · rw [if_pos h9] at h
      rw [if_pos h9, if_pos h9, bindR_ok (long_back _ _ _ H.text h), h9]; rfl
    rw [if_neg h9] at h; rw [if_neg h9, if_neg h9]
    by_cases h10 : q.opcode = 10
    · rw [if_pos h10] at h
      obtain ⟨a, c, e1, e2, rfl⟩ := bothW_ok h
      rw [if_pos h10, if_pos h10, List.append_assoc, bindR_ok (text_back (fun _ => True) _ _ _ trivial e1), bindR_ok (run_back _ H.num H.run e2), h10]; rfl
    rw [if_neg h10] at h; rw [if_neg h10, if_neg h10]
    by_cases h11 : q.opcode = 11
    · rw [if_pos h11] at h
      rw [if_pos h11, if_pos h11, bindR_ok (texts_back' h), h11]
    rw [if_neg h11] at h; rw [if_neg h11, if_neg h11]
    by_cases h15 : q.opcode = 15
    · rw [if_pos h15] at h
      rw [if_pos h15, if_pos h15, bindR_ok (value_back _ _ _ H.token h), h15]
    rw [if_neg h15] at h; rw [if_neg h15, if_neg h15]
    by_cases h13 : q.opcode = 13
    · rw [if_pos h13] at h
      rw [if_pos h13]
      obtain ⟨b1, t1, e1, i1, rfl⟩ := bothW_ok (show bothW _ _ = _ from h)
      obtain ⟨b2, t2, e2, i2, rfl⟩ := bothW_ok i1
      obtain ⟨b3, t3, e3, i3, rfl⟩ := bothW_ok i2
      obtain ⟨b4, t4, e4, e5, rfl⟩ := bothW_ok i3
      have hkd : q.kind ≤ 2 ∧ b1 = [] := by
        unfold mustQ at e1
        split at e1
        · injection e1 with e1; rename_i hd; exact ⟨of_decide_eq_true hd, e1.symm⟩
        · cases e1
      obtain ⟨hkd, rfl⟩ := hkd
      injection e2 with e2
      subst e2
      obtain ⟨hcn, rfl⟩ := cnt_ok e3
      have hall : getAll (enc 2 q.all.length ++ (b4 ++ (t4 ++ []))) = .ok (q.all.map Stm.norm, t4 ++ []) := by
        unfold getAll
        rw [bindR_ok (getN_back (lt2 (by omega)))]
        exact putsM_back stm_back _ _ _ H.all e4
      simp only [List.append_assoc, List.nil_append]
      rw [bindR_ok (getN_back (lt1 (by omega))), if_neg (by omega), bindR_ok hall, bindR_ok (run_back _ H.num H.run e5), h13]
    rw [if_neg h13] at h
    cases h
  unfold getRq
  rw [key]
  rfl
theorem rq_fore {op : Nat} {b : B} {q : Rq} (h : getRq op b = .ok q) : putRq q = .ok b := by
  have hp := getRq_parts h
  clear h
  have key : ∃ y, putRq q = .ok y ∧ y ++ [] = b := by
    unfold getParts at hp
    by_cases h1 : op = 1
    · rw [if_pos h1] at hp
      obtain ⟨l, b1, e1, e2⟩ := bindR_inv hp
      obtain ⟨rfl, rfl⟩ := pure_inv e2
      subst h1
      exact pairs_fore _ _ _ e1
    rw [if_neg h1] at hp
    by_cases h5 : op = 5
    · rw [if_pos h5] at hp
      obtain ⟨rfl, rfl⟩ := pure_inv hp
      subst h5
      exact ⟨[], rfl, rfl⟩
    rw [if_neg h5] at hp
    by_cases h7 : op = 7
    · rw [if_pos h7] at hp
      obtain ⟨s, b1, e1, e2⟩ := bindR_inv hp
      obtain ⟨p, b2, e3, e4⟩ := bindR_inv e2
      obtain ⟨rfl, rfl⟩ := pure_inv e4
      obtain ⟨y1, g1, rfl⟩ := long_fore _ _ _ e1
      obtain ⟨y2, g2, rfl⟩ := run_fore _ _ _ _ e3
      subst h7
      refine ⟨y1 ++ y2, ?_, by rw [List.append_assoc]⟩
      show bothW (.ok (long s)) (runQ false p) = _
      rw [show (.ok (long s) : Wr) = .ok y1 from g1, g2]
      rfl
    rw [if_neg h7] at hp
    by_cases h9 : op = 9
    · rw [if_pos h9] at hp
      obtain ⟨s, b1, e1, e2⟩ := bindR_inv hp
      obtain ⟨rfl, rfl⟩ := pure_inv e2
      subst h9
      exact long_fore _ _ _ e1
    rw [if_neg h9] at hp
    by_cases h10 : op = 10
    · rw [if_pos h10] at hp
      obtain ⟨s, b1, e1, e2⟩ := bindR_inv hp
      obtain ⟨p, b2, e3, e4⟩ := bindR_inv e2
      obtain ⟨rfl, rfl⟩ := pure_inv e4
      obtain ⟨y1, g1, rfl⟩ := text_fore _ _ _ e1
      obtain ⟨y2, g2, rfl⟩ := run_fore _ _ _ _ e3
      subst h10
      refine ⟨y1 ++ y2, ?_, by rw [List.append_assoc]⟩
      show bothW (text s) (runQ false p) = _
      rw [g1, g2]
      rfl
    rw [if_neg h10] at hp
    by_cases h11 : op = 11
    · rw [if_pos h11] at hp
      obtain ⟨l, b1, e1, e2⟩ := bindR_inv hp
      obtain ⟨rfl, rfl⟩ := pure_inv e2
      subst h11
      exact texts_fore _ _ _ e1
    rw [if_neg h11] at hp
    by_cases h15 : op = 15
    · rw [if_pos h15] at hp
      obtain ⟨l, b1, e1, e2⟩ := bindR_inv hp
      obtain ⟨rfl, rfl⟩ := pure_inv e2
      subst h15
      exact value_fore _ _ _ e1
    rw [if_neg h15] at hp
    by_cases h13 : op = 13
    · rw [if_pos h13] at hp
      obtain ⟨k, b1, e1, e2⟩ := bindR_inv hp
      by_cases hk : 2 < k
      · rw [if_pos hk] at e2; cases e2
      rw [if_neg hk] at e2
      obtain ⟨l, b2, e3, e4⟩ := bindR_inv e2
      obtain ⟨p, b3, e5, e6⟩ := bindR_inv e4
      obtain ⟨rfl, rfl⟩ := pure_inv e6
      obtain ⟨n, b4, e7, e8⟩ := bindR_inv e3
      obtain ⟨hl, y1, g1, g2⟩ := getsM_fore stm_fore n b4 l b2 e8
      obtain ⟨y2, g3, rfl⟩ := run_fore _ _ _ _ e5
      have hn := (getN_ok e7).2.2.2
      simp only [Nat.reducePow] at hn
      subst h13
      refine ⟨[] ++ (enc 1 k ++ (enc 2 n ++ (y1 ++ y2))), ?_, ?_⟩
      · show bothW (mustQ (decide (k ≤ 2))) (bothW (.ok (enc 1 k)) (bothW (cntQ l.length) (bothW (putsM stmQ l) (runQ true p)))) = _
        rw [decide_eq_true (by omega : k ≤ 2), g1, g3, hl, show cntQ n = .ok (enc 2 n) by unfold cntQ; rw [if_neg (by omega)]]
        rfl
      · simp only [List.append_assoc, List.nil_append]
        rw [g2, getN_fore e7, getN_fore e1]
    rw [if_neg h13] at hp
    cases hp
  obtain ⟨y, h1, h2⟩ := key
  rw [List.append_nil] at h2
  rw [h1, h2]
end Sb

/- Plain mathematics of bodies of requests: how much is written, how much is got. No conditions. -/
namespace Sb
/-- how much what is got weighs, by the bytes that it took -/
def Wg (K : Nat) {α : Type} (g : B → Res α) (μ : α → Nat) : Prop := ∀ b x r, g b = .ok (x, r) → μ x + K * r.length ≤ K * b.length
theorem wgN (K n : Nat) : Wg K (getN n) (fun _ => K * n) := by
  intro b x r h
  try dsimp only
  obtain ⟨h1, _, rfl, _⟩ := getN_ok h
  rw [List.length_drop, ← Nat.mul_add]
  exact Nat.mul_le_mul_left _ (by omega)
theorem wgTake (K n : Nat) : Wg K (takeN n) (fun x => K * x.length) := by
  intro b x r h
  try dsimp only
  obtain ⟨h1, rfl, rfl⟩ := takeN_ok h
  rw [List.length_drop, List.length_take, ← Nat.mul_add]
  exact Nat.mul_le_mul_left _ (by omega)
theorem Wg.bind {K : Nat} {α β : Type} {g : B → Res α} {f : α → B → Res β} {μ : α → Nat} {ν : β → Nat} (G : Wg K g μ) (F : ∀ a, Wg K (f a) (fun y => ν y - μ a)) : Wg K (fun b => bindR (g b) f) ν := by
  intro b y r h
  obtain ⟨x, b1, h1, h2⟩ := bindR_inv h
  have e1 := G b x b1 h1
  have e2 := F x b1 y r h2
  (try dsimp only at *); omega
theorem Wg.mono {K : Nat} {α : Type} {g : B → Res α} {μ ν : α → Nat} (G : Wg K g μ) (h : ∀ x, ν x ≤ μ x) : Wg K g ν := fun b x r e => by have := G b x r e; have := h x; (try dsimp only at *); omega
theorem wg_le {K : Nat} {α : Type} {g : B → Res α} {μ : α → Nat} (G : Wg K g μ) {b : B} {x : α} {r : B} (h : g b = .ok (x, r)) : μ x ≤ K * b.length := by have := G b x r h; omega
theorem wgText (K : Nat) : Wg K getText (fun x => K * (2 + x.length)) := by
  intro b x r h
  try dsimp only
  have := (getText_ok h).2.1
  rw [← this, Nat.mul_add K 2, Nat.mul_add K (r.length + x.length), Nat.mul_add K r.length]
  (try dsimp only at *); omega
theorem wgNum (K : Nat) : Wg K getNum (fun _ => K * 4) := by
  intro b x r h
  try dsimp only
  obtain ⟨h1, rfl, _⟩ := getNum_ok h
  rw [List.length_drop, ← Nat.mul_add]
  exact Nat.mul_le_mul_left _ (by omega)
theorem wgLong (K : Nat) : Wg K getLong (fun x => K * (4 + x.length)) := by
  intro b x r h
  try dsimp only
  obtain ⟨y, h1, h2⟩ := long_fore b x r h
  injection h1 with h1
  rw [← h2, ← h1, List.length_append, long_w, Nat.mul_add K (4 + x.length)]
  (try dsimp only at *); omega
theorem wgValue (K : Nat) : Wg K getValue (fun x => K * (4 + x.bytes.length)) := by
  intro b x r h
  try dsimp only
  rw [eqValue] at h
  obtain ⟨n, b1, h1, h2⟩ := bindR_inv h
  have e1 := wgNum K b n b1 h1
  by_cases c1 : n = -1
  · rw [if_pos c1] at h2; obtain ⟨rfl, rfl⟩ := pure_inv h2; exact e1
  rw [if_neg c1] at h2
  by_cases c2 : n = -2
  · rw [if_pos c2] at h2; obtain ⟨rfl, rfl⟩ := pure_inv h2; exact e1
  rw [if_neg c2] at h2
  by_cases c3 : n < 0
  · rw [if_pos c3] at h2; cases h2
  rw [if_neg c3] at h2
  obtain ⟨s, b2, h3, h4⟩ := bindR_inv h2
  obtain ⟨rfl, rfl⟩ := pure_inv h4
  have e2 := wgTake K _ _ _ _ h3
  show K * (4 + s.length) + K * b2.length ≤ _
  rw [Nat.mul_add]
  (try dsimp only at *); omega
theorem wgMs {K : Nat} {α : Type} {f : B → Res α} {μ : α → Nat} {ν : List α → Nat} (F : Wg K f μ) (h0 : ν [] = 0) (hc : ∀ x l, ν (x :: l) ≤ μ x + ν l) : ∀ n, Wg K (getsM f n) ν
  | 0 => fun b x r h => by obtain ⟨rfl, rfl⟩ := pure_inv h; show ν [] + _ ≤ _; rw [h0]; omega
  | n + 1 => fun b y r h => by
    rw [eqMs] at h
    obtain ⟨x, b1, h1, h2⟩ := bindR_inv h
    obtain ⟨l, b2, h3, h4⟩ := bindR_inv h2
    obtain ⟨rfl, rfl⟩ := pure_inv h4
    have := F b x b1 h1
    have := wgMs F h0 hc n b1 l b2 h3
    have := hc x l
    (try dsimp only at *); omega
theorem wgNm (K : Nat) (nm : Bool) : Wg K (nmR nm) (fun _ => 0) := by
  cases nm with
  | true => exact (wgText K).mono fun _ => Nat.zero_le _
  | false => intro b x r h; obtain ⟨rfl, rfl⟩ := pure_inv h; show 0 + K * _ ≤ K * _; omega
theorem wgEnt (K : Nat) (nm : Bool) : Wg K (entR nm) (fun p => K * (4 + p.2.bytes.length)) := by
  unfold entR
  rw [eqBoth]
  intro b y r h
  obtain ⟨x, b1, h1, h2⟩ := bindR_inv h
  obtain ⟨v, b2, h3, h4⟩ := bindR_inv h2
  obtain ⟨rfl, rfl⟩ := pure_inv h4
  have := wgNm K nm b x b1 h1
  have := wgValue K b1 v b2 h3
  (try dsimp only at *); omega
theorem wgVals (nm : Bool) : Wg 100000 (getVals nm) (fun l => 4 * costE l) := by
  intro b y r h
  obtain ⟨n, b1, h1, h2⟩ := bindR_inv h
  have e1 := wgN 100000 2 b n b1 h1
  have e2 := wgMs (ν := fun l => 4 * costE l) (wgEnt 100000 nm) rfl (fun x l => by show 4 * (65541 + x.2.bytes.length + costE l) ≤ 100000 * (4 + x.2.bytes.length) + 4 * costE l; omega) n b1 y r h2
  (try dsimp only at *); omega
theorem cost_els (nm : Bool) (l : List (B × Val)) : costE (elsQ (nmsV nm l) (l.map (·.2))) = costE l := by
  have hm : ∀ l : List (B × Val), costE (l.map fun p => (([] : B), p.2)) = costE l := by
    intro l
    induction l with
    | nil => rfl
    | cons x l ih => show 65541 + _ + costE _ = 65541 + _ + costE l; rw [ih]
  have hz : ∀ l : List (B × Val), costE ((l.map (·.1)).zip (l.map (·.2))) = costE l := by
    intro l
    induction l with
    | nil => rfl
    | cons x l ih => show 65541 + x.2.bytes.length + costE ((l.map (·.1)).zip (l.map (·.2))) = 65541 + _ + costE l; rw [ih]
  unfold elsQ nmsV
  cases nm with
  | false =>
    show costE ((l.map (·.2)).map fun v => ([], v)) = _
    rw [List.map_map]
    exact hm l
  | true =>
    rw [if_pos rfl]
    by_cases h : l.map (·.1) = []
    · rw [if_pos h, List.map_map]; exact hm l
    · rw [if_neg h]; exact hz l
theorem wgCons : Wg 100000 getCons (fun _ => 0) := by
  intro b y r h
  rw [eqCons] at h
  obtain ⟨n, b1, h1, h2⟩ := bindR_inv h
  have e1 := wgN 100000 2 b n b1 h1
  by_cases c : n > 10
  · rw [if_pos c] at h2; cases h2
  rw [if_neg c] at h2
  obtain ⟨rfl, rfl⟩ := pure_inv h2
  (try dsimp only at *); omega
theorem cons_lt {b r : B} {c : Nat} (h : getCons b = .ok (c, r)) : c < 65536 := by
  rw [eqCons] at h
  obtain ⟨n, b1, h1, h2⟩ := bindR_inv h
  by_cases c : n > 10
  · rw [if_pos c] at h2; cases h2
  rw [if_neg c] at h2
  obtain ⟨rfl, rfl⟩ := pure_inv h2
  (try dsimp only at *); omega
theorem wgOpt {K : Nat} {α : Type} {g : B → Res α} {μ : α → Nat} {c : Bool} {d : α} (G : Wg K g μ) (hd : μ d = 0) : Wg K (optR c d g) μ := by
  cases c with
  | true => exact G
  | false => intro b x r h; obtain ⟨rfl, rfl⟩ := pure_inv h; omega
theorem opt_inv {α : Type} {P : α → Prop} {g : B → Res α} {c : Bool} {d : α} (G : ∀ b x r, g b = .ok (x, r) → P x) (hd : P d) {b r : B} {x : α} (h : optR c d g b = .ok (x, r)) : P x := by
  cases c with
  | true => exact G _ _ _ h
  | false => obtain ⟨rfl, rfl⟩ := pure_inv h; exact hd
theorem run_wg (bt : Bool) : Wg 100000 (getRun bt) costR := by
  intro b p r h
  obtain ⟨c, b1, h1, h⟩ := bindR_inv h
  obtain ⟨f, b2, h2, h⟩ := bindR_inv h
  by_cases hf : flagsOk bt f = false
  · rw [if_pos hf] at h; cases h
  rw [if_neg hf] at h
  obtain ⟨l, b3, h3, h⟩ := bindR_inv h
  obtain ⟨pg, b4, h4, h⟩ := bindR_inv h
  obtain ⟨st, b5, h5, h⟩ := bindR_inv h
  obtain ⟨sr, b6, h6, h⟩ := bindR_inv h
  obtain ⟨tm, b7, h7, h⟩ := bindR_inv h
  obtain ⟨rfl, rfl⟩ := pure_inv h
  have e1 := wgCons b c b1 h1
  have e2 := wgN 100000 1 b1 f b2 h2
  have e3 : 4 * costE l + 100000 * b3.length ≤ 100000 * b2.length := by
    refine wgOpt (d := []) (μ := fun l => 4 * costE l) (fun b x r h => ?_) rfl _ _ _ h3
    obtain ⟨l', bx, g1, g2⟩ := bindR_inv h
    by_cases h0 : l'.length = 0
    · rw [if_pos h0] at g2; cases g2
    rw [if_neg h0] at g2
    obtain ⟨rfl, rfl⟩ := pure_inv g2
    exact wgVals _ _ _ _ g1
  have e4 := wgOpt ((wgNum 100000).mono (ν := fun _ => 0) fun _ => Nat.zero_le _) rfl _ _ _ h4
  have e5 := wgOpt (d := Val.none) ((wgValue 100000).mono (ν := fun v => v.bytes.length) fun _ => by omega) rfl _ _ _ h5
  have e6 := wgOpt wgCons rfl _ _ _ h6
  have e7 := wgOpt (K := 100000) (c := bitB f 5) (d := (0 : Int)) (μ := fun _ => 0) (fun b x r h => by
    obtain ⟨y, g, g1, g2⟩ := bindR_inv h
    obtain ⟨rfl, rfl⟩ := pure_inv g2
    have := wgN 100000 8 _ _ _ g1
    (try dsimp only at *); omega) rfl _ _ _ h7
  show 2 * costE (elsQ (nmsV (bitB f 6) l) (l.map (·.2))) + st.bytes.length + 100000 * b7.length ≤ _
  rw [cost_els]
  (try dsimp only at *); omega
theorem run_num {bt : Bool} {b r : B} {p : Par} (h : getRun bt b = .ok (p, r)) : ParN p := by
  obtain ⟨c, b1, h1, h⟩ := bindR_inv h
  obtain ⟨f, b2, h2, h⟩ := bindR_inv h
  by_cases hf : flagsOk bt f = false
  · rw [if_pos hf] at h; cases h
  rw [if_neg hf] at h
  obtain ⟨l, b3, h3, h⟩ := bindR_inv h
  obtain ⟨pg, b4, h4, h⟩ := bindR_inv h
  obtain ⟨st, b5, h5, h⟩ := bindR_inv h
  obtain ⟨sr, b6, h6, h⟩ := bindR_inv h
  obtain ⟨tm, b7, h7, h⟩ := bindR_inv h
  obtain ⟨rfl, rfl⟩ := pure_inv h
  refine ⟨cons_lt h1, opt_inv (P := fun c => c < 65536) (fun _ _ _ h => cons_lt h) (by decide) h6, ?_, ?_⟩
  · exact opt_inv (P := fun n : Int => -2147483648 ≤ n ∧ n ≤ 2147483647) (fun _ _ _ h => ⟨(getNum_ok h).2.2.1, (getNum_ok h).2.2.2.1⟩) (by decide) h4
  · refine opt_inv (P := fun n : Int => -9223372036854775808 ≤ n ∧ n ≤ 9223372036854775807) (fun b x r h => ?_) (by decide) h7
    obtain ⟨y, g, g1, g2⟩ := bindR_inv h
    obtain ⟨rfl, rfl⟩ := pure_inv g2
    have := (getN_ok g1).2.2.2
    unfold sgn
    simp only [Nat.reducePow, Nat.reduceDiv] at this ⊢
    split <;> omega
theorem stm_wg : Wg 100000 getStm (fun x => 2 * costT x) := by
  intro b x r h
  try dsimp only
  obtain ⟨k, b1, h1, h⟩ := bindR_inv h
  by_cases hk : 1 < k
  · rw [if_pos hk] at h; cases h
  rw [if_neg hk] at h
  obtain ⟨s, b2, h2, h⟩ := bindR_inv h
  obtain ⟨l, b3, h3, h⟩ := bindR_inv h
  obtain ⟨rfl, rfl⟩ := pure_inv h
  have e1 := wgN 100000 1 b k b1 h1
  have e3 := wgVals false b2 l b3 h3
  have e4 := cost_els false l
  change costE (elsQ [] (l.map (·.2))) = costE l at e4
  show 2 * (65600 + s.ident.length + s.text.length + 2 * costE (elsQ [] (l.map (·.2)))) + 100000 * b3.length ≤ _
  rw [e4]
  by_cases hk1 : k = 1
  · rw [if_pos hk1] at h2
    obtain ⟨t, b4, g4, g5⟩ := bindR_inv h2
    obtain ⟨rfl, rfl⟩ := pure_inv g5
    have e5 := wgText 100000 _ _ _ g4
    simp only [List.length_nil] at *
    (try dsimp only at *); omega
  · rw [if_neg hk1] at h2
    obtain ⟨t, b4, g4, g5⟩ := bindR_inv h2
    obtain ⟨rfl, rfl⟩ := pure_inv g5
    have e5 := wgLong 100000 _ _ _ g4
    simp only [List.length_nil] at *
    (try dsimp only at *); omega
/-- what is got is light, its numbers fit -/
theorem got_light {op : Nat} {b : B} {q : Rq} (hop : op < 256) (h : getRq op b = .ok q) : costQ q ≤ 100000 * b.length ∧ ParN q.run ∧ q.opcode = op ∧ q.kind < 256 := by
  have hp := getRq_parts h
  clear h
  have pn : ParN Par.none := ⟨by decide, by decide, ⟨by decide, by decide⟩, ⟨by decide, by decide⟩⟩
  unfold getParts at hp
  unfold costQ
  by_cases h1 : op = 1
  · rw [if_pos h1] at hp
    obtain ⟨l, b1, e1, e2⟩ := bindR_inv hp
    obtain ⟨rfl, rfl⟩ := pure_inv e2
    exact ⟨Nat.zero_le _, pn, rfl, Nat.zero_lt_succ 255⟩
  rw [if_neg h1] at hp
  by_cases h5 : op = 5
  · rw [if_pos h5] at hp
    obtain ⟨rfl, rfl⟩ := pure_inv hp
    exact ⟨Nat.zero_le _, pn, rfl, Nat.zero_lt_succ 255⟩
  rw [if_neg h5] at hp
  by_cases h7 : op = 7
  · rw [if_pos h7] at hp
    obtain ⟨s, b1, e1, e2⟩ := bindR_inv hp
    obtain ⟨p, b2, e3, e4⟩ := bindR_inv e2
    obtain ⟨rfl, rfl⟩ := pure_inv e4
    have g1 := wgLong 100000 _ _ _ e1
    have g2 := run_wg _ _ _ _ e3
    refine ⟨?_, run_num e3, rfl, Nat.zero_lt_succ 255⟩
    show 2 * 0 + costR p + s.length + 0 + 0 ≤ _
    (try dsimp only at *); omega
  rw [if_neg h7] at hp
  by_cases h9 : op = 9
  · rw [if_pos h9] at hp
    obtain ⟨s, b1, e1, e2⟩ := bindR_inv hp
    obtain ⟨rfl, rfl⟩ := pure_inv e2
    have g1 := wgLong 100000 _ _ _ e1
    refine ⟨?_, pn, rfl, Nat.zero_lt_succ 255⟩
    show 2 * 0 + 0 + s.length + 0 + 0 ≤ _
    (try dsimp only at *); omega
  rw [if_neg h9] at hp
  by_cases h10 : op = 10
  · rw [if_pos h10] at hp
    obtain ⟨s, b1, e1, e2⟩ := bindR_inv hp
    obtain ⟨p, b2, e3, e4⟩ := bindR_inv e2
    obtain ⟨rfl, rfl⟩ := pure_inv e4
    have g1 := wgText 100000 _ _ _ e1
    have g2 := run_wg _ _ _ _ e3
    refine ⟨?_, run_num e3, rfl, Nat.zero_lt_succ 255⟩
    show 2 * 0 + costR p + 0 + s.length + 0 ≤ _
    (try dsimp only at *); omega
  rw [if_neg h10] at hp
  by_cases h11 : op = 11
  · rw [if_pos h11] at hp
    obtain ⟨l, b1, e1, e2⟩ := bindR_inv hp
    obtain ⟨rfl, rfl⟩ := pure_inv e2
    exact ⟨Nat.zero_le _, pn, rfl, Nat.zero_lt_succ 255⟩
  rw [if_neg h11] at hp
  by_cases h15 : op = 15
  · rw [if_pos h15] at hp
    obtain ⟨l, b1, e1, e2⟩ := bindR_inv hp
    obtain ⟨rfl, rfl⟩ := pure_inv e2
    have g1 := wgValue 100000 _ _ _ e1
    refine ⟨?_, pn, rfl, Nat.zero_lt_succ 255⟩
    show 2 * 0 + 0 + 0 + 0 + l.bytes.length ≤ _
    (try dsimp only at *); omega
  rw [if_neg h15] at hp
  by_cases h13 : op = 13
  · rw [if_pos h13] at hp
    obtain ⟨k, b1, e1, e2⟩ := bindR_inv hp
    by_cases hk : 2 < k
    · rw [if_pos hk] at e2; cases e2
    rw [if_neg hk] at e2
    obtain ⟨l, b2, e3, e4⟩ := bindR_inv e2
    obtain ⟨p, b3, e5, e6⟩ := bindR_inv e4
    obtain ⟨rfl, rfl⟩ := pure_inv e6
    obtain ⟨n, b4, e7, e8⟩ := bindR_inv e3
    have g1 := wgN 100000 1 _ _ _ e1
    have g2 := wgN 100000 2 _ _ _ e7
    have g3 := wgMs (ν := fun l => 2 * costA l) stm_wg rfl (fun x l => by show 2 * (costT x + costA l) ≤ _; omega) n _ _ _ e8
    have g4 := run_wg _ _ _ _ e5
    refine ⟨?_, run_num e5, rfl, by show k < 256; omega⟩
    show 2 * costA l + costR p + 0 + 0 + 0 ≤ _
    (try dsimp only at *); omega
  rw [if_neg h13] at hp
  cases hp
/- what is written -/
theorem run_le (bt : Bool) (p : Par) : lenW (runQ bt p) ≤ 40 + costR p := by
  unfold runQ costR
  have h1 := lenW_both (cons p.cons) (bothW (mustQ (runOk bt p)) (bothW (.ok (enc 1 (flP p))) (bothW (optQ (decide (0 < p.values.length)) (valsQ p.names p.values)) (bothW (optQ p.paged (.ok (enc 4 (p.page % 4294967296).toNat))) (bothW (optQ p.resumed (value p.state)) (bothW (optQ p.serially (cons p.serial)) (optQ p.timed (.ok (enc 8 (p.time % 18446744073709551616).toNat)))))))))
  have h2 := lenW_both (mustQ (runOk bt p)) (bothW (.ok (enc 1 (flP p))) (bothW (optQ (decide (0 < p.values.length)) (valsQ p.names p.values)) (bothW (optQ p.paged (.ok (enc 4 (p.page % 4294967296).toNat))) (bothW (optQ p.resumed (value p.state)) (bothW (optQ p.serially (cons p.serial)) (optQ p.timed (.ok (enc 8 (p.time % 18446744073709551616).toNat))))))))
  have h3 := lenW_both (.ok (enc 1 (flP p))) (bothW (optQ (decide (0 < p.values.length)) (valsQ p.names p.values)) (bothW (optQ p.paged (.ok (enc 4 (p.page % 4294967296).toNat))) (bothW (optQ p.resumed (value p.state)) (bothW (optQ p.serially (cons p.serial)) (optQ p.timed (.ok (enc 8 (p.time % 18446744073709551616).toNat)))))))
  have h4 := lenW_both (optQ (decide (0 < p.values.length)) (valsQ p.names p.values)) (bothW (optQ p.paged (.ok (enc 4 (p.page % 4294967296).toNat))) (bothW (optQ p.resumed (value p.state)) (bothW (optQ p.serially (cons p.serial)) (optQ p.timed (.ok (enc 8 (p.time % 18446744073709551616).toNat))))))
  have h5 := lenW_both (optQ p.paged (.ok (enc 4 (p.page % 4294967296).toNat))) (bothW (optQ p.resumed (value p.state)) (bothW (optQ p.serially (cons p.serial)) (optQ p.timed (.ok (enc 8 (p.time % 18446744073709551616).toNat)))))
  have h6 := lenW_both (optQ p.resumed (value p.state)) (bothW (optQ p.serially (cons p.serial)) (optQ p.timed (.ok (enc 8 (p.time % 18446744073709551616).toNat))))
  have h7 := lenW_both (optQ p.serially (cons p.serial)) (optQ p.timed (.ok (enc 8 (p.time % 18446744073709551616).toNat)))
  have k1 := cons_w p.cons
  have k2 := must_len (runOk bt p)
  have k3 : lenW (.ok (enc 1 (flP p))) = 1 := enc_length _ _
  have k4 := opt_le (b := decide (0 < p.values.length)) (vals_le p.names p.values)
  have k5 := opt_le (b := p.paged) (r := .ok (enc 4 (p.page % 4294967296).toNat)) (n := 4) (by show (enc 4 _).length ≤ 4; rw [enc_length]; exact Nat.le_refl _)
  have k6 := opt_le (b := p.resumed) (value_le p.state)
  have k7 := opt_le (b := p.serially) (cons_w p.serial)
  have k8 := opt_le (b := p.timed) (r := .ok (enc 8 (p.time % 18446744073709551616).toNat)) (n := 8) (by show (enc 8 _).length ≤ 8; rw [enc_length]; exact Nat.le_refl _)
  omega
theorem put_le (q : Rq) : lenW (putRq q) ≤ 8600000000 + costQ q := by
  unfold putRq costQ
  have hr := run_le false q.run
  have hr2 := run_le true q.run
  have ht := long_w q.text
  have hi : lenW (text q.ident) ≤ 65537 := text_le _
  split
  · have := pairs_w q.options; omega
  split
  · exact Nat.zero_le _
  split
  · have := lenW_both (.ok (long q.text)) (runQ false q.run)
    have e : lenW (.ok (long q.text)) = (long q.text).length := rfl
    omega
  split
  · show (long q.text).length ≤ _; omega
  split
  · have := lenW_both (text q.ident) (runQ false q.run); omega
  split
  · have := texts_w q.events; omega
  split
  · have := value_le q.token; omega
  split
  · unfold batchQ
    have h1 := lenW_both (mustQ (decide (q.kind ≤ 2))) (bothW (.ok (enc 1 q.kind)) (bothW (cntQ q.all.length) (bothW (putsM stmQ q.all) (runQ true q.run))))
    have h2 := lenW_both (.ok (enc 1 q.kind)) (bothW (cntQ q.all.length) (bothW (putsM stmQ q.all) (runQ true q.run)))
    have h3 := lenW_both (cntQ q.all.length) (bothW (putsM stmQ q.all) (runQ true q.run))
    have h4 := lenW_both (putsM stmQ q.all) (runQ true q.run)
    have k1 := must_len (decide (q.kind ≤ 2))
    have k2 : lenW (.ok (enc 1 q.kind)) = 1 := enc_length _ _
    have k3 := cnt_len q.all.length
    have k4 := putsA_le q.all
    omega
  · exact Nat.zero_le _
/- how much a request of few parts weighs -/
theorem costE_few {M : Nat} : ∀ {l : List (B × Val)}, (∀ p ∈ l, p.2.bytes.length ≤ M) → costE l ≤ l.length * (65541 + M)
  | [], _ => Nat.zero_le _
  | x :: l, h => by
    have h1 := h x (List.mem_cons_self ..)
    have h2 := costE_few (l := l) fun p hp => h p (List.mem_cons_of_mem _ hp)
    show 65541 + x.2.bytes.length + costE l ≤ (l.length + 1) * _
    rw [Nat.add_mul]
    omega
theorem els_few {M : Nat} {names : List B} {l : List Val} (h : ∀ v ∈ l, v.bytes.length ≤ M) : costE (elsQ names l) ≤ l.length * (65541 + M) := by
  have hm : ∀ p ∈ elsQ names l, p.2 ∈ l := by
    intro p hp
    unfold elsQ at hp
    split at hp
    · obtain ⟨v, hv, rfl⟩ := List.mem_map.1 hp; exact hv
    · exact (List.of_mem_zip hp).2
  have hl : (elsQ names l).length ≤ l.length := by
    unfold elsQ
    split
    · rw [List.length_map]; exact Nat.le_refl _
    · rw [List.length_zip]; omega
  have := costE_few (M := M) fun p hp => h _ (hm p hp)
  exact Nat.le_trans this (Nat.mul_le_mul_right _ hl)
/-- how many values the statements have -/
def cntS (l : List Stm) : Nat := (l.map fun x => x.values.length).sum
theorem costA_few {M : Nat} : ∀ {l : List Stm}, (∀ x ∈ l, x.text.length ≤ M ∧ x.ident.length ≤ M ∧ ∀ v ∈ x.values, v.bytes.length ≤ M) → costA l ≤ (l.length + 2 * cntS l) * (65600 + 2 * M)
  | [], _ => Nat.zero_le _
  | x :: l, h => by
    obtain ⟨h1, h2, h3⟩ := h x (List.mem_cons_self ..)
    have h4 := costA_few (l := l) fun p hp => h p (List.mem_cons_of_mem _ hp)
    have h5 := els_few (names := []) h3
    have h6 : x.values.length * (65541 + M) ≤ x.values.length * (65600 + 2 * M) := Nat.mul_le_mul_left _ (by omega)
    have h7 : cntS (x :: l) = x.values.length + cntS l := rfl
    have h8 : (l.length + 1 + 2 * (x.values.length + cntS l)) * (65600 + 2 * M) = (l.length + 2 * cntS l) * (65600 + 2 * M) + (65600 + 2 * M) + 2 * (x.values.length * (65600 + 2 * M)) := by
      rw [show l.length + 1 + 2 * (x.values.length + cntS l) = (l.length + 2 * cntS l) + 1 + 2 * x.values.length by omega, Nat.add_mul, Nat.add_mul, Nat.one_mul, Nat.mul_assoc]
    show 65600 + x.ident.length + x.text.length + 2 * costE (elsQ [] x.values) + costA l ≤ (l.length + 1 + 2 * cntS (x :: l)) * _
    rw [h7, h8]
    omega
/- what is got of what was put weighs no more -/
theorem norm_len (v : Val) : v.norm.bytes.length ≤ v.bytes.length := by
  unfold Val.norm
  split
  · exact Nat.le_refl _
  · exact Nat.zero_le _
theorem costE_norm : ∀ l : List (B × Val), costE (l.map fun p => (p.1, p.2.norm)) ≤ costE l
  | [] => Nat.le_refl _
  | x :: l => by
    have h1 := norm_len x.2
    have h2 := costE_norm l
    show 65541 + x.2.norm.bytes.length + costE (l.map fun p => (p.1, p.2.norm)) ≤ 65541 + x.2.bytes.length + costE l
    omega
theorem els_norm (names : List B) (l : List Val) : costE (elsQ names (l.map Val.norm)) ≤ costE (elsQ names l) := by
  have h : elsQ names (l.map Val.norm) = (elsQ names l).map fun p => (p.1, p.2.norm) := by
    unfold elsQ
    split
    · rw [List.map_map, List.map_map]; rfl
    · rw [List.zip_map_right]; rfl
  rw [h]
  exact costE_norm _
theorem costR_norm (p : Par) : costR p.norm ≤ costR p := by
  have h1 := els_norm p.names p.values
  have h2 := norm_len p.state
  have h3 : (if p.resumed then p.state.norm else Val.none).bytes.length ≤ p.state.bytes.length := by
    split
    · exact h2
    · exact Nat.zero_le _
  show 2 * costE (elsQ p.names (p.values.map Val.norm)) + (if p.resumed then p.state.norm else Val.none).bytes.length ≤ 2 * costE (elsQ p.names p.values) + p.state.bytes.length
  omega
theorem costT_norm (x : Stm) : costT x.norm ≤ costT x := by
  have h1 := els_norm [] x.values
  unfold Stm.norm
  split
  · show 65600 + x.ident.length + 0 + 2 * costE (elsQ [] (x.values.map Val.norm)) ≤ 65600 + x.ident.length + x.text.length + 2 * costE (elsQ [] x.values); omega
  · show 65600 + 0 + x.text.length + 2 * costE (elsQ [] (x.values.map Val.norm)) ≤ 65600 + x.ident.length + x.text.length + 2 * costE (elsQ [] x.values); omega
theorem costA_norm : ∀ l : List Stm, costA (l.map Stm.norm) ≤ costA l
  | [] => Nat.le_refl _
  | x :: l => by
    have h1 := costT_norm x
    have h2 := costA_norm l
    show costT x.norm + costA (l.map Stm.norm) ≤ costT x + costA l
    omega
theorem costQ_norm (q : Rq) : costQ q.norm ≤ costQ q := by
  have h1 := costR_norm q.run
  have h2 := costA_norm q.all
  have h3 := norm_len q.token
  unfold Rq.norm
  split
  · exact Nat.zero_le _
  split
  · exact Nat.zero_le _
  split
  · show 2 * 0 + costR q.run.norm + q.text.length + 0 + 0 ≤ 2 * costA q.all + costR q.run + q.text.length + q.ident.length + q.token.bytes.length; omega
  split
  · show 2 * 0 + 0 + q.text.length + 0 + 0 ≤ 2 * costA q.all + costR q.run + q.text.length + q.ident.length + q.token.bytes.length; omega
  split
  · show 2 * 0 + costR q.run.norm + 0 + q.ident.length + 0 ≤ 2 * costA q.all + costR q.run + q.text.length + q.ident.length + q.token.bytes.length; omega
  split
  · exact Nat.zero_le _
  split
  · show 2 * 0 + 0 + 0 + 0 + q.token.norm.bytes.length ≤ 2 * costA q.all + costR q.run + q.text.length + q.ident.length + q.token.bytes.length; omega
  · show 2 * costA (q.all.map Stm.norm) + costR q.run.norm + 0 + 0 + 0 ≤ 2 * costA q.all + costR q.run + q.text.length + q.ident.length + q.token.bytes.length; omega
/- no error is nought -/
def Nw (r : Wr) : Prop := ∀ e, r = .error e → e ≠ 0
theorem Nw.both {r s : Wr} (h : Nw r) (k : Nw s) : Nw (bothW r s) := fun _ e => bothW_ne h k e
theorem Nw.ok (b : B) : Nw (.ok b) := fun _ h => by cases h
theorem Nw.ite {c : Prop} [Decidable c] {r s : Wr} (h : Nw r) (k : Nw s) : Nw (if c then r else s) := by
  split
  · exact h
  · exact k
theorem Nw.err {e : Int} (h : e ≠ 0) : Nw (.error e) := fun _ h2 => by injection h2 with h2; exact h2 ▸ h
theorem nwMs {α : Type} {f : α → Wr} (h : ∀ x, Nw (f x)) : ∀ l, Nw (putsM f l)
  | [] => Nw.ok _
  | x :: l => by rw [putsM_cons]; exact (h x).both (nwMs h l)
theorem nwCnt (n : Nat) : Nw (cntQ n) := Nw.ite (Nw.err (by decide)) (Nw.ok _)
theorem nwMust (b : Bool) : Nw (mustQ b) := Nw.ite (Nw.ok _) (Nw.err (by decide))
theorem nwText (s : B) : Nw (text s) := fun _ h => text_ne h
theorem nwValue (v : Val) : Nw (value v) := fun _ h => value_ne h
theorem nwCons (c : Nat) : Nw (cons c) := fun _ h => cons_ne8 h
theorem nwOpt {b : Bool} {r : Wr} (h : Nw r) : Nw (optQ b r) := by cases b; exact Nw.ok _; exact h
theorem nwVals (names : List B) (l : List Val) : Nw (valsQ names l) := (nwCnt _).both (nwMs (fun _ => (Nw.ite (nwText _) (Nw.ok _)).both (nwValue _)) _)
theorem nwRun (bt : Bool) (p : Par) : Nw (runQ bt p) :=
  (nwCons _).both ((nwMust _).both ((Nw.ok _).both ((nwOpt (nwVals _ _)).both ((nwOpt (Nw.ok _)).both ((nwOpt (nwValue _)).both ((nwOpt (nwCons _)).both (nwOpt (Nw.ok _))))))))
theorem nwStm (x : Stm) : Nw (stmQ x) := (Nw.ok _).both ((Nw.ite (nwText _) (Nw.ok _)).both (nwVals _ _))
theorem nwRq (q : Rq) : Nw (putRq q) :=
  .ite (fun _ h => putL_ne (fun _ _ h => pairW_ne h) h) (.ite (.ok _) (.ite ((Nw.ok _).both (nwRun _ _)) (.ite (.ok _) (.ite ((nwText _).both (nwRun _ _)) (.ite (fun _ h => texts_ne h) (.ite (nwValue _)
    (.ite ((nwMust _).both ((Nw.ok _).both ((nwCnt _).both ((nwMs nwStm _).both (nwRun _ _))))) (.err (by decide)))))))))
theorem putRq_ne {q : Rq} {e : Int} (h : putRq q = .error e) : e ≠ 0 := nwRq q e h
end Sb
