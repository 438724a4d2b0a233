/- Plain mathematics: a batch of any statements is written, and read as it was. No conditions. -/
import Derived.Test.YtdgmkmadlnmhbaaRqn
import Derived.KernelRfl
set_option linter.unusedVariables false
set_option linter.unusedSimpArgs false
namespace Sb
def bStm (vs : List Val) (t : B) (p : Bool) : Stm := if p then ⟨true, [], t, []⟩ else ⟨false, t, [], vs⟩
def bAll (vs : List Val) : List B → List Bool → List Stm
  | t :: ts, p :: ps => bStm vs t p :: bAll vs ts ps
  | _, _ => []
theorem bAll_len (vs : List Val) : ∀ (ts : List B) (ps : List Bool), (bAll vs ts ps).length = min ts.length ps.length
  | [], _ => by simp [bAll]
  | _ :: _, [] => by simp [bAll]
  | t :: ts, p :: ps => by show (bAll vs ts ps).length + 1 = min (ts.length + 1) (ps.length + 1); rw [bAll_len vs ts ps]; omega
theorem bAll_get (vs : List Val) : ∀ {ts : List B} {ps : List Bool} {k : Nat} {t : B} {p : Bool}, ts[k]? = some t → ps[k]? = some p → (bAll vs ts ps)[k]? = some (bStm vs t p)
  | [], _, _, _, _, h, _ => by simp at h
  | _ :: _, [], _, _, _, _, h => by simp at h
  | t :: ts, p :: ps, 0, _, _, h, h' => by simp at h h'; subst h h'; rfl
  | t :: ts, p :: ps, k + 1, _, _, h, h' => by
    rw [List.getElem?_cons_succ] at h h'
    show (bStm vs t p :: bAll vs ts ps)[k + 1]? = _
    rw [List.getElem?_cons_succ]
    exact bAll_get vs h h'
theorem bAll_mem (vs : List Val) : ∀ {ts : List B} {ps : List Bool} {x : Stm}, x ∈ bAll vs ts ps → ∃ (k : Nat) (t : B) (p : Bool), ts[k]? = some t ∧ ps[k]? = some p ∧ x = bStm vs t p
  | [], _, _, h => by simp [bAll] at h
  | _ :: _, [], _, h => by simp [bAll] at h
  | t :: ts, p :: ps, x, h => by
    rcases List.mem_cons.1 (show x ∈ bStm vs t p :: bAll vs ts ps from h) with rfl | h
    · exact ⟨0, t, p, rfl, rfl, rfl⟩
    · obtain ⟨k, t', p', h1, h2, h3⟩ := bAll_mem vs h
      exact ⟨k + 1, t', p', h1, h2, h3⟩
def bRun : Par := { Par.none with cons := 2 }
def bRq (k : Nat) (l : List Stm) : Rq := { Rq.of 13 with run := bRun, kind := k, all := l }
theorem putsM_ok {α : Type} {f : α → Wr} : ∀ {l : List α}, (∀ x ∈ l, ∃ b, f x = .ok b) → ∃ b, putsM f l = .ok b
  | [], _ => ⟨[], rfl⟩
  | x :: l, h => by
    obtain ⟨a, h1⟩ := h x (List.mem_cons_self ..)
    obtain ⟨b, h2⟩ := putsM_ok (l := l) fun y hy => h y (List.mem_cons_of_mem _ hy)
    exact ⟨a ++ b, by rw [putsM_cons, h1, h2]; rfl⟩
theorem text_ok {s : B} (h : s.length ≤ 500) : ∃ b, text s = .ok b := ⟨_, by unfold text; rw [if_neg (by omega)]⟩
theorem value_ok {v : Val} (h : 0 ≤ v.kind ∧ v.kind ≤ 2) : ∃ b, value v = .ok b := by
  unfold value
  by_cases h0 : v.kind = 0
  · rw [if_pos h0]; exact ⟨_, rfl⟩
  rw [if_neg h0]
  by_cases h1 : v.kind = 1
  · rw [if_pos h1]; exact ⟨_, rfl⟩
  rw [if_neg h1, if_pos (by omega)]
  exact ⟨_, rfl⟩
theorem vals_ok {vs : List Val} (hl : vs.length ≤ 20) (h : ∀ v ∈ vs, 0 ≤ v.kind ∧ v.kind ≤ 2) : ∃ b, valsQ [] vs = .ok b := by
  obtain ⟨b, hb⟩ := putsM_ok (f := entQ false) (l := elsQ [] vs) fun p hp => by
    obtain ⟨v, hv, rfl⟩ := List.mem_map.1 (show p ∈ vs.map (fun v => (([] : B), v)) from hp)
    obtain ⟨b, h1⟩ := value_ok (h v hv)
    exact ⟨b, by show bothW (.ok []) (value v) = _; rw [h1]; rfl⟩
  refine ⟨enc 2 vs.length ++ b, ?_⟩
  show bothW (cntQ vs.length) (putsM (entQ false) (elsQ [] vs)) = _
  rw [hb, show cntQ vs.length = .ok (enc 2 vs.length) by unfold cntQ; rw [if_neg (by omega)]]
  rfl
theorem bStm_ok {vs : List Val} {t : B} {p : Bool} (hl : vs.length ≤ 20) (h : ∀ v ∈ vs, 0 ≤ v.kind ∧ v.kind ≤ 2) (ht : t.length ≤ 500) : ∃ b, stmQ (bStm vs t p) = .ok b := by
  cases p with
  | true =>
    obtain ⟨b, hb⟩ := text_ok ht
    refine ⟨enc 1 1 ++ (b ++ enc 2 0), ?_⟩
    show bothW (.ok (enc 1 1)) (bothW (text t) (.ok (enc 2 0))) = _
    rw [hb]; rfl
  | false =>
    obtain ⟨b, hb⟩ := vals_ok hl h
    refine ⟨enc 1 0 ++ (long t ++ b), ?_⟩
    show bothW (.ok (enc 1 0)) (bothW (.ok (long t)) (valsQ [] vs)) = _
    rw [hb]; rfl
theorem bRun_put : runQ true bRun = .ok [0, 2, 0] := by kernel_rfl
theorem bRun_num : ParN bRun := ⟨by decide, by decide, ⟨by decide, by decide⟩, ⟨by decide, by decide⟩⟩
structure Bt (k : Nat) (ts : List B) (ps : List Bool) (vs : List Val) : Prop where
  kind : k ≤ 2
  nts : ts.length ≤ 30
  nps : ps.length ≤ 30
  nvs : vs.length ≤ 20
  kinds : ∀ v ∈ vs, 0 ≤ v.kind ∧ v.kind ≤ 2
  short : ∀ (i : Nat) (t : B), i < min ts.length ps.length → ts[i]? = some t → t.length ≤ 500
  bytes : ∀ v ∈ vs, v.bytes.length ≤ 1048576
theorem lt_min {α β : Type} {l : List α} {m : List β} {k : Nat} {x : α} {y : β} (h1 : l[k]? = some x) (h2 : m[k]? = some y) : k < min l.length m.length := by
  have := (List.getElem?_eq_some_iff.1 h1).1
  have := (List.getElem?_eq_some_iff.1 h2).1
  omega
theorem b_put {k : Nat} {ts : List B} {ps : List Bool} {vs : List Val} (H : Bt k ts ps vs) : ∃ b, putRq (bRq k (bAll vs ts ps)) = .ok b := by
  obtain ⟨b, hb⟩ := putsM_ok (f := stmQ) (l := bAll vs ts ps) fun x hx => by
    obtain ⟨i, t, p, h1, h2, rfl⟩ := bAll_mem vs hx
    exact bStm_ok H.nvs H.kinds (H.short i t (lt_min h1 h2) h1)
  have hn := bAll_len vs ts ps
  have := H.nts
  refine ⟨[] ++ (enc 1 k ++ (enc 2 (bAll vs ts ps).length ++ (b ++ [0, 2, 0]))), ?_⟩
  show bothW (mustQ (decide (k ≤ 2))) (bothW (.ok (enc 1 k)) (bothW (cntQ (bAll vs ts ps).length) (bothW (putsM stmQ (bAll vs ts ps)) (runQ true bRun)))) = _
  rw [hb, bRun_put, decide_eq_true H.kind, show cntQ (bAll vs ts ps).length = .ok (enc 2 (bAll vs ts ps).length) by unfold cntQ; rw [if_neg (by omega)]]
  rfl
theorem b_31 {k : Nat} {ts : List B} {ps : List Bool} {vs : List Val} (H : Bt k ts ps vs) : Rq31 (bRq k (bAll vs ts ps)) := by
  refine ⟨by show (0 : Nat) < 2147483648; decide, ⟨(fun v hv => by cases hv), by show (0 : Nat) < 2147483648; decide⟩, bRun_num, by show (0 : Nat) < 2147483648; decide, fun x hx => ?_⟩
  obtain ⟨i, t, p, h1, h2, rfl⟩ := bAll_mem vs hx
  have ht := H.short i t (lt_min h1 h2) h1
  cases p with
  | true => exact ⟨by show (0 : Nat) < 2147483648; decide, fun v hv => by cases hv⟩
  | false => exact ⟨by show t.length < 2147483648; omega, fun v hv => by have := H.bytes v hv; show v.bytes.length < 2147483648; omega⟩
theorem b_light {k : Nat} {ts : List B} {ps : List Bool} {vs : List Val} (H : Bt k ts ps vs) : costQ (bRq k (bAll vs ts ps)) ≤ 10000000000 := by
  have h1 := costA_few (M := 1048576) (l := bAll vs ts ps) fun x hx => by
    obtain ⟨i, t, p, h1, h2, rfl⟩ := bAll_mem vs hx
    have ht := H.short i t (lt_min h1 h2) h1
    cases p with
    | true => exact ⟨Nat.zero_le _, by show t.length ≤ _; omega, fun v hv => by cases hv⟩
    | false => exact ⟨by show t.length ≤ _; omega, Nat.zero_le _, H.bytes⟩
  have h2 : ∀ l : List Stm, (∀ x ∈ l, x.values.length ≤ 20) → cntS l ≤ l.length * 20 := by
    intro l
    induction l with
    | nil => intro _; exact Nat.le_refl _
    | cons x l ih =>
      intro h
      have a := h x (List.mem_cons_self ..)
      have b := ih fun y hy => h y (List.mem_cons_of_mem _ hy)
      show x.values.length + cntS l ≤ (l.length + 1) * 20
      omega
  have h3 := h2 (bAll vs ts ps) fun x hx => by
    obtain ⟨i, t, p, h1, h2, rfl⟩ := bAll_mem vs hx
    cases p with
    | true => exact Nat.zero_le _
    | false => exact H.nvs
  have h4 := bAll_len vs ts ps
  have h5 := H.nts
  have h6 : ((bAll vs ts ps).length + 2 * cntS (bAll vs ts ps)) * (65600 + 2 * 1048576) ≤ 1230 * (65600 + 2 * 1048576) := Nat.mul_le_mul_right _ (by omega)
  show 2 * costA (bAll vs ts ps) + 0 + 0 + 0 + 0 ≤ _
  omega
theorem b_get {k : Nat} {ts : List B} {ps : List Bool} {vs : List Val} {b : B} (H : Bt k ts ps vs) (h : putRq (bRq k (bAll vs ts ps)) = .ok b) : getRq 13 b = .ok (bRq k ((bAll vs ts ps).map Stm.norm)) := rq_back (b_31 H) h
theorem b_true (vs : List Val) (t : B) : (bStm vs t true).norm = ⟨true, [], t, []⟩ := rfl
theorem b_false (vs : List Val) (t : B) : (bStm vs t false).norm = ⟨false, t, [], vs.map Val.norm⟩ := rfl
end Sb
