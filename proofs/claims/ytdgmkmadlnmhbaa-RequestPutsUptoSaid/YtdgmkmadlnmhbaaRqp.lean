/- Plain mathematics of bodies of requests: what is put is got but for what a body has not, and what is got is put as it was. No conditions. -/
import Derived.Test.YtdgmkmadlnmhbaaRqf
import Derived.Test.YtdgmkmadlnmhbaaRqg
set_option linter.unusedVariables false
set_option linter.unusedSimpArgs false
namespace Sb
theorem lt1 {x : Nat} (h : x < 256) : x < 256 ^ 1 := by simpa using h
theorem lt2 {x : Nat} (h : x < 65536) : x < 256 ^ 2 := by simpa using h
theorem bindR_inv {α β : Type} {r : Res α} {f : α → B → Res β} {y : β} {t : B} (h : bindR r f = .ok (y, t)) : ∃ x b, r = .ok (x, b) ∧ f x b = .ok (y, t) := by
  cases r with
  | error e => cases h
  | ok p => exact ⟨p.1, p.2, rfl, h⟩
theorem pure_inv {α : Type} {x y : α} {b t : B} (h : (.ok (x, b) : Res α) = .ok (y, t)) : x = y ∧ b = t := by
  injection h with h; injection h with h1 h2; exact ⟨h1, h2⟩
theorem opt_fore {α : Type} {f : α → Wr} {g : B → Res α} {c : Bool} {d : α} (F : Fore f g) {b r : B} {x : α} (h : optR c d g b = .ok (x, r)) : ∃ y, optQ c (f x) = .ok y ∧ y ++ r = b ∧ (c = false → x = d) := by
  cases c with
  | false => obtain ⟨rfl, rfl⟩ := pure_inv h; exact ⟨[], rfl, rfl, fun _ => rfl⟩
  | true => obtain ⟨y, h1, h2⟩ := F b x r h; exact ⟨y, h1, h2, fun e => by cases e⟩
theorem opt_back {α β : Type} {D : α → Prop} {f : α → Wr} {g : B → Res β} {h : α → β} (H : Back D f g h) {c : Bool} {d : β} {x : α} {b : B} (r : B) (hD : D x) (hb : optQ c (f x) = .ok b) : optR c d g (b ++ r) = .ok (if c then h x else d, r) := by
  cases c with
  | false => injection hb with hb; subst hb; rfl
  | true => exact H x b r hD hb
def pgW (i : Int) : Wr := .ok (enc 4 (i % 4294967296).toNat)
def tmW (i : Int) : Wr := .ok (enc 8 (i % 18446744073709551616).toNat)
theorem pg_back : Back (fun i : Int => -2147483648 ≤ i ∧ i ≤ 2147483647) pgW getNum id := by
  intro i b r hi h
  injection h with h
  subst h
  rw [getNum_back (by omega)]
  unfold sgn
  simp only [Nat.reducePow, Nat.reduceDiv, id]
  split <;> (congr 2; omega)
theorem pg_fore : Fore pgW getNum := by
  intro b n r h
  obtain ⟨x, rfl, hx, hb⟩ := getNum_fore h
  refine ⟨_, rfl, ?_⟩
  have : (sgn 4 x % 4294967296).toNat = x := by
    unfold sgn
    simp only [Nat.reducePow, Nat.reduceDiv]
    split <;> omega
  rw [this]
  exact hb
theorem tm_back : Back (fun i : Int => -9223372036854775808 ≤ i ∧ i ≤ 9223372036854775807) tmW getI8 id := by
  intro i b r hi h
  injection h with h
  subst h
  unfold getI8
  rw [bindR_ok (getN_back (by have : (256 : Nat) ^ 8 = 18446744073709551616 := by decide
                              omega))]
  unfold sgn
  simp only [Nat.reducePow, Nat.reduceDiv, id]
  split <;> (congr 2; omega)
theorem tm_fore : Fore tmW getI8 := by
  intro b n r h
  obtain ⟨x, b1, h1, h2⟩ := bindR_inv h
  obtain ⟨rfl, rfl⟩ := pure_inv h2
  have hx := (getN_ok h1).2.2.2
  refine ⟨_, rfl, ?_⟩
  have : (sgn 8 x % 18446744073709551616).toNat = x := by
    unfold sgn
    simp only [Nat.reducePow, Nat.reduceDiv] at hx ⊢
    split <;> omega
  rw [this]
  exact getN_fore h1
def nmW (nm : Bool) (x : B) : Wr := if nm then text x else .ok []
theorem nm_back (nm : Bool) : Back (fun _ => True) (nmW nm) (nmR nm) (fun x => if nm then x else []) := by
  cases nm with
  | true => exact text_back _
  | false => intro x b r _ h; injection h with h; subst h; rfl
theorem nm_fore (nm : Bool) : Fore (nmW nm) (nmR nm) := by
  cases nm with
  | true => exact text_fore
  | false => intro b x r h; obtain ⟨rfl, rfl⟩ := pure_inv h; exact ⟨[], rfl, rfl⟩
theorem ent_back (nm : Bool) : Back (fun p : B × Val => val31 p.2) (entQ nm) (entR nm) (fun p => (if nm then p.1 else [], p.2.norm)) :=
  (both_back (nm_back nm) value_back).mono fun _ h => ⟨trivial, h⟩
theorem ent_fore (nm : Bool) : Fore (entQ nm) (entR nm) := both_fore (nm_fore nm) value_fore
theorem cnt_ok {n : Nat} {b : B} (h : cntQ n = .ok b) : n ≤ 65535 ∧ b = enc 2 n := by
  unfold cntQ at h
  split at h
  · cases h
  · injection h with h; exact ⟨by omega, h.symm⟩
theorem els_snd {names : List B} {l : List Val} (h : names = [] ∨ names.length = l.length) : (elsQ names l).map (·.2) = l := by
  unfold elsQ
  split
  · rw [List.map_map]; exact List.map_id l
  · rcases h with h | h
    · contradiction
    · exact List.map_snd_zip (by omega)
theorem els_fst {names : List B} {l : List Val} (hn : names ≠ []) (h : names.length = l.length) : (elsQ names l).map (·.1) = names := by
  unfold elsQ
  rw [if_neg hn]
  exact List.map_fst_zip (by omega)
theorem vals_back {names : List B} {l : List Val} {b : B} (r : B) (hn : names = [] ∨ names.length = l.length) (hl : ∀ v ∈ l, val31 v) (h : valsQ names l = .ok b) :
    ∃ m, getVals (decide (names ≠ [])) (b ++ r) = .ok (m, r) ∧ m.map (·.2) = l.map Val.norm ∧ nmsV (decide (names ≠ [])) m = names ∧ m.length = l.length := by
  unfold valsQ at h
  obtain ⟨a, c, h1, h2, rfl⟩ := bothW_ok h
  obtain ⟨hc, rfl⟩ := cnt_ok h1
  have hel : (elsQ names l).length = l.length := els_len hn
  refine ⟨(elsQ names l).map (fun p => (if decide (names ≠ []) then p.1 else [], p.2.norm)), ?_, ?_, ?_, by rw [List.length_map, hel]⟩
  · unfold getVals
    rw [List.append_assoc, bindR_ok (getN_back (lt2 (by omega))), ← hel]
    refine putsM_back (ent_back _) _ _ _ (fun x hx => ?_) h2
    exact hl _ (by rw [← els_snd hn]; exact List.mem_map_of_mem hx)
  · rw [List.map_map]
    calc _ = ((elsQ names l).map (·.2)).map Val.norm := by rw [List.map_map]; rfl
      _ = _ := by rw [els_snd hn]
  · by_cases hne : names = []
    · subst hne; rfl
    · rcases hn with hn | hn
      · contradiction
      · rw [show decide (names ≠ []) = true from decide_eq_true hne]
        unfold nmsV
        rw [if_pos rfl, List.map_map]
        exact els_fst hne hn
theorem puts_noname : ∀ l : List (B × Val), putsM (entQ false) (l.map fun p => ([], p.2)) = putsM (entQ false) l
  | [] => rfl
  | x :: l => by rw [List.map_cons, putsM_cons, putsM_cons, puts_noname l]; rfl
theorem vals_fore {nm : Bool} {b r : B} {l : List (B × Val)} (h : getVals nm b = .ok (l, r)) : ∃ y, valsQ (nmsV nm l) (l.map (·.2)) = .ok y ∧ y ++ r = b := by
  obtain ⟨n, b1, h1, h2⟩ := bindR_inv h
  obtain ⟨hl, y, h3, h4⟩ := getsM_fore (ent_fore nm) n b1 l r h2
  have hn := (getN_ok h1).2.2.2
  simp only [Nat.reducePow] at hn
  refine ⟨enc 2 n ++ y, ?_, by rw [List.append_assoc, h4]; exact getN_fore h1⟩
  have e1 : cntQ (l.map (·.2)).length = .ok (enc 2 n) := by unfold cntQ; rw [List.length_map, hl, if_neg (by omega)]
  have e2 : putsM (entQ (decide (nmsV nm l ≠ []))) (elsQ (nmsV nm l) (l.map (·.2))) = .ok y := by
    cases nm with
    | false =>
      show putsM (entQ false) ((l.map (·.2)).map fun v => ([], v)) = _
      rw [List.map_map]
      exact (puts_noname l).trans h3
    | true =>
      by_cases hl0 : l = []
      · subst hl0; exact h3
      · have hm : l.map (·.1) ≠ [] := fun e => hl0 (List.map_eq_nil_iff.1 e)
        show putsM (entQ (decide (l.map (·.1) ≠ []))) (elsQ (l.map (·.1)) (l.map (·.2))) = _
        rw [decide_eq_true hm]
        unfold elsQ
        rw [if_neg hm]
        have : (l.map (·.1)).zip (l.map (·.2)) = l := by
          clear hm hl0 e1 h h2 h3 h4 hl
          induction l with
          | nil => rfl
          | cons x l ih => rw [List.map_cons, List.map_cons, List.zip_cons_cons, ih]
        rw [this]
        exact h3
  unfold valsQ
  rw [e1, e2]
  rfl
/-- a run as it is got -/
def Par.norm (p : Par) : Par := ⟨p.cons, p.values.map Val.norm, p.names, p.skip, p.paged, (if p.paged then p.page else 0), p.resumed, (if p.resumed then p.state.norm else Val.none), p.serially, (if p.serially then p.serial else 0), p.timed, (if p.timed then p.time else 0)⟩
def Par31 (p : Par) : Prop := (∀ v ∈ p.values, val31 v) ∧ val31 p.state
theorem fl7_ok : ∀ a b c d e f g : Bool, (g = true → a = true) → ∀ bt : Bool, (!bt || noB (fl7 a b c d e f g)) = true → flagsOk bt (fl7 a b c d e f g) = true := by
  intro a b c d e f g
  revert a b c d e f g
  decide +kernel
theorem valsR_back {p : Par} {f : Nat} {b : B} (r : B) (q0 : bitB f 0 = decide (0 < p.values.length)) (q6 : bitB f 6 = decide (0 < p.names.length)) (hn : p.names.length = 0 ∨ p.names.length = p.values.length) (hl : ∀ v ∈ p.values, val31 v)
    (h : optQ (decide (0 < p.values.length)) (valsQ p.names p.values) = .ok b) : ∃ m, valsR f (b ++ r) = .ok (m, r) ∧ m.map (·.2) = p.values.map Val.norm ∧ nmsV (bitB f 6) m = p.names := by
  have hd : decide (0 < p.names.length) = decide (p.names ≠ []) := by cases p.names <;> simp
  unfold valsR
  rw [q0, q6, hd]
  by_cases h0 : 0 < p.values.length
  · rw [decide_eq_true h0] at h ⊢
    obtain ⟨m, h1, h2, h3, h4⟩ := vals_back r (hn.imp (fun e => List.length_eq_zero_iff.1 e) id) hl h
    refine ⟨m, ?_, h2, h3⟩
    show bindR (getVals (decide (p.names ≠ [])) (b ++ r)) _ = _
    rw [bindR_ok h1, if_neg (by omega)]
  · rw [decide_eq_false h0] at h ⊢
    injection h with h
    subst h
    have e1 : p.values = [] := List.length_eq_zero_iff.1 (by omega)
    have e2 : p.names = [] := List.length_eq_zero_iff.1 (by omega)
    rw [e1, e2]
    exact ⟨[], rfl, rfl, rfl⟩
theorem run_back {bt : Bool} {p : Par} {b : B} (r : B) (hp : ParN p) (h3 : Par31 p) (h : runQ bt p = .ok b) : getRun bt (b ++ r) = .ok (p.norm, r) := by
  obtain ⟨b1, t1, e1, i1, rfl⟩ := bothW_ok (show bothW _ _ = _ from h)
  obtain ⟨b2, t2, e2, i2, rfl⟩ := bothW_ok i1
  obtain ⟨b3, t3, e3, i3, rfl⟩ := bothW_ok i2
  obtain ⟨b4, t4, e4, i4, rfl⟩ := bothW_ok i3
  obtain ⟨b5, t5, e5, i5, rfl⟩ := bothW_ok i4
  obtain ⟨b6, t6, e6, i6, rfl⟩ := bothW_ok i5
  obtain ⟨b7, t7, e7, e8, rfl⟩ := bothW_ok i6
  have hok : runOk bt p = true ∧ b2 = [] := by
    unfold mustQ at e2
    split at e2
    · injection e2 with e2; exact ⟨‹_›, e2.symm⟩
    · cases e2
  obtain ⟨hok, rfl⟩ := hok
  injection e3 with e3
  subst e3
  unfold runOk at hok
  rw [Bool.and_eq_true, Bool.or_eq_true, beq_iff_eq, beq_iff_eq] at hok
  obtain ⟨hnm, hbt⟩ := hok
  obtain ⟨q0, q1, q2, q3, q4, q5, q6⟩ := fl7_bit (decide (0 < p.values.length)) p.skip p.paged p.resumed p.serially p.timed (decide (0 < p.names.length))
  have hlt := fl7_lt (decide (0 < p.values.length)) p.skip p.paged p.resumed p.serially p.timed (decide (0 < p.names.length))
  have hfo : flagsOk bt (flP p) = true := fl7_ok _ _ _ _ _ _ _ (fun e => by rw [decide_eq_true_eq] at e ⊢; omega) bt hbt
  change bitB (flP p) 0 = _ at q0; change bitB (flP p) 1 = _ at q1; change bitB (flP p) 2 = _ at q2; change bitB (flP p) 3 = _ at q3
  change bitB (flP p) 4 = _ at q4; change bitB (flP p) 5 = _ at q5; change bitB (flP p) 6 = _ at q6
  change flP p < 128 at hlt
  obtain ⟨m, hv, m1, m2⟩ := valsR_back (p := p) (f := flP p) (b5 ++ (b6 ++ (b7 ++ (t7 ++ r)))) q0 q6 hnm h3.1 e4
  have hpg := opt_back pg_back (d := (0 : Int)) (b6 ++ (b7 ++ (t7 ++ r))) hp.page e5
  have hst := opt_back value_back (d := Val.none) (b7 ++ (t7 ++ r)) h3.2 e6
  have hsr := opt_back cons_back (d := 0) (t7 ++ r) trivial e7
  have htm := opt_back tm_back (d := (0 : Int)) r hp.time e8
  unfold getRun
  simp only [List.append_assoc]
  rw [bindR_ok (cons_back _ _ _ trivial e1), List.nil_append, bindR_ok (getN_back (lt1 (by omega))), if_neg (by rw [hfo]; decide), bindR_ok hv, q2, bindR_ok hpg, q3, bindR_ok hst, q4, bindR_ok hsr, q5, bindR_ok htm]
  unfold parOf Par.norm
  rw [m1, m2, q1, q2, q3, q4, q5]
  rfl
theorem fl7_of : ∀ f : Nat, f < 128 → fl7 (bitB f 0) (bitB f 1) (bitB f 2) (bitB f 3) (bitB f 4) (bitB f 5) (bitB f 6) = f := by decide +kernel
theorem noB_of : ∀ f : Nat, f < 128 → (f % 16 = 0 ∧ f < 64) → noB f = true := by decide +kernel
theorem run_fore (bt : Bool) : Fore (runQ bt) (getRun bt) := by
  intro b p r h
  obtain ⟨c, b1, h1, h⟩ := bindR_inv h
  obtain ⟨f, b2, h2, h⟩ := bindR_inv h
  by_cases hf : flagsOk bt f = false
  · rw [if_pos hf] at h; cases h
  rw [if_neg hf] at h
  obtain ⟨l, b3, h3, h⟩ := bindR_inv h
  obtain ⟨pg, b4, h4, h⟩ := bindR_inv h
  obtain ⟨st, b5, h5, h⟩ := bindR_inv h
  obtain ⟨sr, b6, h6, h⟩ := bindR_inv h
  obtain ⟨tm, b7, h7, h⟩ := bindR_inv h
  obtain ⟨rfl, rfl⟩ := pure_inv h
  rw [Bool.not_eq_false] at hf
  unfold flagsOk at hf
  rw [Bool.and_eq_true, Bool.and_eq_true, decide_eq_true_eq] at hf
  obtain ⟨⟨hf1, hf2⟩, hf3⟩ := hf
  obtain ⟨y1, k1, rfl⟩ := cons_fore b c b1 h1
  have k2 := getN_fore h2
  obtain ⟨y4, k4, k4', _⟩ := opt_fore pg_fore h4
  obtain ⟨y5, k5, k5', _⟩ := opt_fore value_fore h5
  obtain ⟨y6, k6, k6', _⟩ := opt_fore cons_fore h6
  obtain ⟨y7, k7, k7', _⟩ := opt_fore tm_fore h7
  have hvl : ∃ y3, optQ (decide (0 < (l.map (·.2)).length)) (valsQ (nmsV (bitB f 6) l) (l.map (·.2))) = .ok y3 ∧ y3 ++ b3 = b2 ∧ decide (0 < (l.map (·.2)).length) = bitB f 0 ∧ decide (0 < (nmsV (bitB f 6) l).length) = bitB f 6 ∧ ((nmsV (bitB f 6) l).length = 0 ∨ (nmsV (bitB f 6) l).length = (l.map (·.2)).length) := by
    unfold valsR at h3
    cases hb : bitB f 0 with
    | false =>
      rw [hb] at h3 hf2
      obtain ⟨rfl, rfl⟩ := pure_inv h3
      have hb6 : bitB f 6 = false := by simpa using hf2
      rw [hb6]
      exact ⟨[], rfl, rfl, rfl, rfl, .inl rfl⟩
    | true =>
      rw [hb] at h3
      obtain ⟨l', bx, g1, g2⟩ := bindR_inv h3
      by_cases h0 : l'.length = 0
      · rw [if_pos h0] at g2; cases g2
      rw [if_neg h0] at g2
      obtain ⟨rfl, rfl⟩ := pure_inv g2
      obtain ⟨y3, g3, g4⟩ := vals_fore g1
      have hl1 : 0 < (l'.map (·.2)).length := by rw [List.length_map]; omega
      refine ⟨y3, by rw [decide_eq_true hl1]; exact g3, g4, decide_eq_true hl1, ?_, ?_⟩
      · unfold nmsV
        cases bitB f 6 with
        | false => rfl
        | true => exact decide_eq_true (by rw [if_pos rfl, List.length_map]; omega)
      · unfold nmsV
        cases bitB f 6 with
        | false => exact .inl rfl
        | true => exact .inr (by rw [if_pos rfl, List.length_map, List.length_map])
  obtain ⟨y3, k3, k3', u1, u2, u3⟩ := hvl
  have hfl : flP (parOf c f l pg st sr tm) = f := by
    show fl7 (decide (0 < (l.map (·.2)).length)) (bitB f 1) (bitB f 2) (bitB f 3) (bitB f 4) (bitB f 5) (decide (0 < (nmsV (bitB f 6) l).length)) = f
    rw [u1, u2]
    exact fl7_of f hf1
  have hok : runOk bt (parOf c f l pg st sr tm) = true := by
    unfold runOk
    rw [hfl, Bool.and_eq_true, Bool.or_eq_true, beq_iff_eq, beq_iff_eq]
    refine ⟨u3, ?_⟩
    cases bt with
    | false => rfl
    | true =>
      rw [Bool.not_true, Bool.false_or, decide_eq_true_eq] at hf3
      rw [Bool.not_true, Bool.false_or]
      exact noB_of f hf1 hf3
  refine ⟨y1 ++ (([] : B) ++ (enc 1 f ++ (y3 ++ (y4 ++ (y5 ++ (y6 ++ y7)))))), ?_, ?_⟩
  · have e2 : mustQ (runOk bt (parOf c f l pg st sr tm)) = .ok [] := by rw [hok]; rfl
    have e3 : optQ (decide (0 < (parOf c f l pg st sr tm).values.length)) (valsQ (parOf c f l pg st sr tm).names (parOf c f l pg st sr tm).values) = .ok y3 := k3
    have e4 : optQ (parOf c f l pg st sr tm).paged (.ok (enc 4 ((parOf c f l pg st sr tm).page % 4294967296).toNat)) = .ok y4 := k4
    have e5 : optQ (parOf c f l pg st sr tm).resumed (value (parOf c f l pg st sr tm).state) = .ok y5 := k5
    have e6 : optQ (parOf c f l pg st sr tm).serially (cons (parOf c f l pg st sr tm).serial) = .ok y6 := k6
    have e7 : optQ (parOf c f l pg st sr tm).timed (.ok (enc 8 ((parOf c f l pg st sr tm).time % 18446744073709551616).toNat)) = .ok y7 := k7
    have e1 : cons (parOf c f l pg st sr tm).cons = .ok y1 := k1
    unfold runQ
    rw [e1, e2, e3, e4, e5, e6, e7, hfl]
    rfl
  · simp only [List.append_assoc, List.nil_append]
    rw [k7', k6', k5', k4', k3', k2]
/-- a statement as it is got -/
def Stm.norm (x : Stm) : Stm := if x.prepared then ⟨true, [], x.ident, x.values.map Val.norm⟩ else ⟨false, x.text, [], x.values.map Val.norm⟩
def Stm31 (x : Stm) : Prop := short31 x.text ∧ ∀ v ∈ x.values, val31 v
theorem stm_back : Back Stm31 stmQ getStm Stm.norm := by
  intro x b r hx h
  obtain ⟨b1, t1, e1, h1, rfl⟩ := bothW_ok (show bothW _ _ = _ from h)
  obtain ⟨b2, t2, e2, e3, rfl⟩ := bothW_ok h1
  injection e1 with e1
  subst e1
  obtain ⟨m, g1, g2, _⟩ := vals_back r (.inl rfl) hx.2 e3
  replace g1 : getVals false (t2 ++ r) = .ok (m, r) := g1
  unfold getStm
  simp only [List.append_assoc]
  cases hp : x.prepared with
  | true =>
    rw [hp] at e2
    simp only [if_true] at e2 ⊢
    rw [bindR_ok (getN_back (by decide)), if_neg (by decide), bindR_ok (bindR_ok (text_back (fun _ => True) _ _ (t2 ++ r) trivial e2)), bindR_ok g1]
    unfold Stm.norm
    rw [hp, if_pos rfl, g2]
    rfl
  | false =>
    rw [hp] at e2
    simp only [Bool.false_eq_true, if_false] at e2 ⊢
    rw [bindR_ok (getN_back (by decide)), if_neg (by decide), if_neg (by decide), bindR_ok (bindR_ok (long_back _ _ (t2 ++ r) hx.1 e2)), bindR_ok g1]
    unfold Stm.norm
    rw [hp, if_neg (by decide), g2]
    rfl
theorem stm_fore : Fore stmQ getStm := by
  intro b x r h
  obtain ⟨k, b1, h1, h⟩ := bindR_inv h
  by_cases hk : 1 < k
  · rw [if_pos hk] at h; cases h
  rw [if_neg hk] at h
  obtain ⟨s, b2, h2, h⟩ := bindR_inv h
  obtain ⟨l, b3, h3, h⟩ := bindR_inv h
  obtain ⟨rfl, rfl⟩ := pure_inv h
  obtain ⟨y3, g3, rfl⟩ := vals_fore h3
  have k1 := getN_fore h1
  by_cases hk1 : k = 1
  · rw [if_pos hk1] at h2
    obtain ⟨t, b4, g4, g5⟩ := bindR_inv h2
    obtain ⟨rfl, rfl⟩ := pure_inv g5
    obtain ⟨y4, g6, rfl⟩ := text_fore _ _ _ g4
    subst hk1
    refine ⟨enc 1 1 ++ (y4 ++ y3), ?_, by simp only [List.append_assoc]; exact k1⟩
    show bothW (.ok (enc 1 1)) (bothW (text t) (valsQ [] (l.map (·.2)))) = _
    rw [g6, show valsQ [] (l.map (·.2)) = .ok y3 from g3]
    rfl
  · rw [if_neg hk1] at h2
    obtain ⟨t, b4, g4, g5⟩ := bindR_inv h2
    obtain ⟨rfl, rfl⟩ := pure_inv g5
    obtain ⟨y4, g6, rfl⟩ := long_fore _ _ _ g4
    obtain rfl : k = 0 := by omega
    refine ⟨enc 1 0 ++ (y4 ++ y3), ?_, by simp only [List.append_assoc]; exact k1⟩
    show bothW (.ok (enc 1 0)) (bothW (.ok (long t)) (valsQ [] (l.map (·.2)))) = _
    rw [show (.ok (long t) : Wr) = .ok y4 from g6, show valsQ [] (l.map (·.2)) = .ok y3 from g3]
    rfl
/-- a request as it is got -/
def Rq.norm (q : Rq) : Rq :=
  if q.opcode = 1 then { Rq.of 1 with options := q.options }
  else if q.opcode = 5 then Rq.of 5
  else if q.opcode = 7 then { Rq.of 7 with text := q.text, run := q.run.norm }
  else if q.opcode = 9 then { Rq.of 9 with text := q.text }
  else if q.opcode = 10 then { Rq.of 10 with ident := q.ident, run := q.run.norm }
  else if q.opcode = 11 then { Rq.of 11 with events := q.events }
  else if q.opcode = 15 then { Rq.of 15 with token := q.token.norm }
  else { Rq.of 13 with kind := q.kind, all := q.all.map Stm.norm, run := q.run.norm }
structure Rq31 (q : Rq) : Prop where
  text : short31 q.text
  run : Par31 q.run
  num : ParN q.run
  token : val31 q.token
  all : ∀ x ∈ q.all, Stm31 x
theorem rq_back {q : Rq} {b : B} (H : Rq31 q) (h : putRq q = .ok b) : getRq q.opcode b = .ok q.norm := by
  have key : getParts q.opcode b = .ok (q.norm, []) := by
    rw [← List.append_nil b]
    unfold putRq at h
    unfold getParts Rq.norm
    by_cases h1 : q.opcode = 1
    · rw [if_pos h1] at h
      rw [if_pos h1, if_pos h1, bindR_ok (pairs_back' h), h1]
    rw [if_neg h1] at h; rw [if_neg h1, if_neg h1]
    by_cases h5 : q.opcode = 5
    · rw [if_pos h5] at h
      injection h with h; subst h
      rw [if_pos h5, if_pos h5, h5]; rfl
    rw [if_neg h5] at h; rw [if_neg h5, if_neg h5]
    by_cases h7 : q.opcode = 7
    · rw [if_pos h7] at h
      obtain ⟨a, c, e1, e2, rfl⟩ := bothW_ok h
      rw [if_pos h7, if_pos h7, List.append_assoc, bindR_ok (long_back _ _ _ H.text e1), bindR_ok (run_back _ H.num H.run e2), h7]; rfl
    rw [if_neg h7] at h; rw [if_neg h7, if_neg h7]
    by_cases h9 : q.opcode = 9
    · rw [if_pos h9] at h
      rw [if_pos h9, if_pos h9, bindR_ok (long_back _ _ _ H.text h), h9]; rfl
    rw [if_neg h9] at h; rw [if_neg h9, if_neg h9]
    by_cases h10 : q.opcode = 10
    · rw [if_pos h10] at h
      obtain ⟨a, c, e1, e2, rfl⟩ := bothW_ok h
      rw [if_pos h10, if_pos h10, List.append_assoc, bindR_ok (text_back (fun _ => True) _ _ _ trivial e1), bindR_ok (run_back _ H.num H.run e2), h10]; rfl
    rw [if_neg h10] at h; rw [if_neg h10, if_neg h10]
    by_cases h11 : q.opcode = 11
    · rw [if_pos h11] at h
      rw [if_pos h11, if_pos h11, bindR_ok (texts_back' h), h11]
    rw [if_neg h11] at h; rw [if_neg h11, if_neg h11]
    by_cases h15 : q.opcode = 15
    · rw [if_pos h15] at h
      rw [if_pos h15, if_pos h15, bindR_ok (value_back _ _ _ H.token h), h15]
    rw [if_neg h15] at h; rw [if_neg h15, if_neg h15]
    by_cases h13 : q.opcode = 13
    · rw [if_pos h13] at h
      rw [if_pos h13]
      obtain ⟨b1, t1, e1, i1, rfl⟩ := bothW_ok (show bothW _ _ = _ from h)
      obtain ⟨b2, t2, e2, i2, rfl⟩ := bothW_ok i1
      obtain ⟨b3, t3, e3, i3, rfl⟩ := bothW_ok i2
      obtain ⟨b4, t4, e4, e5, rfl⟩ := bothW_ok i3
      have hkd : q.kind ≤ 2 ∧ b1 = [] := by
        unfold mustQ at e1
        split at e1
        · injection e1 with e1; rename_i hd; exact ⟨of_decide_eq_true hd, e1.symm⟩
        · cases e1
      obtain ⟨hkd, rfl⟩ := hkd
      injection e2 with e2
      subst e2
      obtain ⟨hcn, rfl⟩ := cnt_ok e3
      have hall : getAll (enc 2 q.all.length ++ (b4 ++ (t4 ++ []))) = .ok (q.all.map Stm.norm, t4 ++ []) := by
        unfold getAll
        rw [bindR_ok (getN_back (lt2 (by omega)))]
        exact putsM_back stm_back _ _ _ H.all e4
      simp only [List.append_assoc, List.nil_append]
      rw [bindR_ok (getN_back (lt1 (by omega))), if_neg (by omega), bindR_ok hall, bindR_ok (run_back _ H.num H.run e5), h13]
    rw [if_neg h13] at h
    cases h
  unfold getRq
  rw [key]
  rfl
theorem rq_fore {op : Nat} {b : B} {q : Rq} (h : getRq op b = .ok q) : putRq q = .ok b := by
  have hp := getRq_parts h
  clear h
  have key : ∃ y, putRq q = .ok y ∧ y ++ [] = b := by
    unfold getParts at hp
    by_cases h1 : op = 1
    · rw [if_pos h1] at hp
      obtain ⟨l, b1, e1, e2⟩ := bindR_inv hp
      obtain ⟨rfl, rfl⟩ := pure_inv e2
      subst h1
      exact pairs_fore _ _ _ e1
    rw [if_neg h1] at hp
    by_cases h5 : op = 5
    · rw [if_pos h5] at hp
      obtain ⟨rfl, rfl⟩ := pure_inv hp
      subst h5
      exact ⟨[], rfl, rfl⟩
    rw [if_neg h5] at hp
    by_cases h7 : op = 7
    · rw [if_pos h7] at hp
      obtain ⟨s, b1, e1, e2⟩ := bindR_inv hp
      obtain ⟨p, b2, e3, e4⟩ := bindR_inv e2
      obtain ⟨rfl, rfl⟩ := pure_inv e4
      obtain ⟨y1, g1, rfl⟩ := long_fore _ _ _ e1
      obtain ⟨y2, g2, rfl⟩ := run_fore _ _ _ _ e3
      subst h7
      refine ⟨y1 ++ y2, ?_, by rw [List.append_assoc]⟩
      show bothW (.ok (long s)) (runQ false p) = _
      rw [show (.ok (long s) : Wr) = .ok y1 from g1, g2]
      rfl
    rw [if_neg h7] at hp
    by_cases h9 : op = 9
    · rw [if_pos h9] at hp
      obtain ⟨s, b1, e1, e2⟩ := bindR_inv hp
      obtain ⟨rfl, rfl⟩ := pure_inv e2
      subst h9
      exact long_fore _ _ _ e1
    rw [if_neg h9] at hp
    by_cases h10 : op = 10
    · rw [if_pos h10] at hp
      obtain ⟨s, b1, e1, e2⟩ := bindR_inv hp
      obtain ⟨p, b2, e3, e4⟩ := bindR_inv e2
      obtain ⟨rfl, rfl⟩ := pure_inv e4
      obtain ⟨y1, g1, rfl⟩ := text_fore _ _ _ e1
      obtain ⟨y2, g2, rfl⟩ := run_fore _ _ _ _ e3
      subst h10
      refine ⟨y1 ++ y2, ?_, by rw [List.append_assoc]⟩
      show bothW (text s) (runQ false p) = _
      rw [g1, g2]
      rfl
    rw [if_neg h10] at hp
    by_cases h11 : op = 11
    · rw [if_pos h11] at hp
      obtain ⟨l, b1, e1, e2⟩ := bindR_inv hp
      obtain ⟨rfl, rfl⟩ := pure_inv e2
      subst h11
      exact texts_fore _ _ _ e1
    rw [if_neg h11] at hp
    by_cases h15 : op = 15
    · rw [if_pos h15] at hp
      obtain ⟨l, b1, e1, e2⟩ := bindR_inv hp
      obtain ⟨rfl, rfl⟩ := pure_inv e2
      subst h15
      exact value_fore _ _ _ e1
    rw [if_neg h15] at hp
    by_cases h13 : op = 13
    · rw [if_pos h13] at hp
      obtain ⟨k, b1, e1, e2⟩ := bindR_inv hp
      by_cases hk : 2 < k
      · rw [if_pos hk] at e2; cases e2
      rw [if_neg hk] at e2
      obtain ⟨l, b2, e3, e4⟩ := bindR_inv e2
      obtain ⟨p, b3, e5, e6⟩ := bindR_inv e4
      obtain ⟨rfl, rfl⟩ := pure_inv e6
      obtain ⟨n, b4, e7, e8⟩ := bindR_inv e3
      obtain ⟨hl, y1, g1, g2⟩ := getsM_fore stm_fore n b4 l b2 e8
      obtain ⟨y2, g3, rfl⟩ := run_fore _ _ _ _ e5
      have hn := (getN_ok e7).2.2.2
      simp only [Nat.reducePow] at hn
      subst h13
      refine ⟨[] ++ (enc 1 k ++ (enc 2 n ++ (y1 ++ y2))), ?_, ?_⟩
      · show bothW (mustQ (decide (k ≤ 2))) (bothW (.ok (enc 1 k)) (bothW (cntQ l.length) (bothW (putsM stmQ l) (runQ true p)))) = _
        rw [decide_eq_true (by omega : k ≤ 2), g1, g3, hl, show cntQ n = .ok (enc 2 n) by unfold cntQ; rw [if_neg (by omega)]]
        rfl
      · simp only [List.append_assoc, List.nil_append]
        rw [g2, getN_fore e7, getN_fore e1]
    rw [if_neg h13] at hp
    cases hp
  obtain ⟨y, h1, h2⟩ := key
  rw [List.append_nil] at h2
  rw [h1, h2]
end Sb
