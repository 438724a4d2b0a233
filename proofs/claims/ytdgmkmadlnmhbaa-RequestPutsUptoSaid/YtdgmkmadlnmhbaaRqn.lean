/- Plain mathematics of bodies of requests: how much is written, how much is got. No conditions. -/
import Derived.Test.YtdgmkmadlnmhbaaRqp
set_option linter.unusedVariables false
set_option linter.unusedSimpArgs false
namespace Sb
/-- how much what is got weighs, by the bytes that it took -/
def Wg (K : Nat) {α : Type} (g : B → Res α) (μ : α → Nat) : Prop := ∀ b x r, g b = .ok (x, r) → μ x + K * r.length ≤ K * b.length
theorem wgN (K n : Nat) : Wg K (getN n) (fun _ => K * n) := by
  intro b x r h
  try dsimp only
  obtain ⟨h1, _, rfl, _⟩ := getN_ok h
  rw [List.length_drop, ← Nat.mul_add]
  exact Nat.mul_le_mul_left _ (by omega)
theorem wgTake (K n : Nat) : Wg K (takeN n) (fun x => K * x.length) := by
  intro b x r h
  try dsimp only
  obtain ⟨h1, rfl, rfl⟩ := takeN_ok h
  rw [List.length_drop, List.length_take, ← Nat.mul_add]
  exact Nat.mul_le_mul_left _ (by omega)
theorem Wg.bind {K : Nat} {α β : Type} {g : B → Res α} {f : α → B → Res β} {μ : α → Nat} {ν : β → Nat} (G : Wg K g μ) (F : ∀ a, Wg K (f a) (fun y => ν y - μ a)) : Wg K (fun b => bindR (g b) f) ν := by
  intro b y r h
  obtain ⟨x, b1, h1, h2⟩ := bindR_inv h
  have e1 := G b x b1 h1
  have e2 := F x b1 y r h2
  (try dsimp only at *); omega
theorem Wg.mono {K : Nat} {α : Type} {g : B → Res α} {μ ν : α → Nat} (G : Wg K g μ) (h : ∀ x, ν x ≤ μ x) : Wg K g ν := fun b x r e => by have := G b x r e; have := h x; (try dsimp only at *); omega
theorem wg_le {K : Nat} {α : Type} {g : B → Res α} {μ : α → Nat} (G : Wg K g μ) {b : B} {x : α} {r : B} (h : g b = .ok (x, r)) : μ x ≤ K * b.length := by have := G b x r h; omega
theorem wgText (K : Nat) : Wg K getText (fun x => K * (2 + x.length)) := by
  intro b x r h
  try dsimp only
  have := (getText_ok h).2.1
  rw [← this, Nat.mul_add K 2, Nat.mul_add K (r.length + x.length), Nat.mul_add K r.length]
  (try dsimp only at *); omega
theorem wgNum (K : Nat) : Wg K getNum (fun _ => K * 4) := by
  intro b x r h
  try dsimp only
  obtain ⟨h1, rfl, _⟩ := getNum_ok h
  rw [List.length_drop, ← Nat.mul_add]
  exact Nat.mul_le_mul_left _ (by omega)
theorem wgLong (K : Nat) : Wg K getLong (fun x => K * (4 + x.length)) := by
  intro b x r h
  try dsimp only
  obtain ⟨y, h1, h2⟩ := long_fore b x r h
  injection h1 with h1
  rw [← h2, ← h1, List.length_append, long_w, Nat.mul_add K (4 + x.length)]
  (try dsimp only at *); omega
theorem wgValue (K : Nat) : Wg K getValue (fun x => K * (4 + x.bytes.length)) := by
  intro b x r h
  try dsimp only
  rw [eqValue] at h
  obtain ⟨n, b1, h1, h2⟩ := bindR_inv h
  have e1 := wgNum K b n b1 h1
  by_cases c1 : n = -1
  · rw [if_pos c1] at h2; obtain ⟨rfl, rfl⟩ := pure_inv h2; exact e1
  rw [if_neg c1] at h2
  by_cases c2 : n = -2
  · rw [if_pos c2] at h2; obtain ⟨rfl, rfl⟩ := pure_inv h2; exact e1
  rw [if_neg c2] at h2
  by_cases c3 : n < 0
  · rw [if_pos c3] at h2; cases h2
  rw [if_neg c3] at h2
  obtain ⟨s, b2, h3, h4⟩ := bindR_inv h2
  obtain ⟨rfl, rfl⟩ := pure_inv h4
  have e2 := wgTake K _ _ _ _ h3
  show K * (4 + s.length) + K * b2.length ≤ _
  rw [Nat.mul_add]
  (try dsimp only at *); omega
theorem wgMs {K : Nat} {α : Type} {f : B → Res α} {μ : α → Nat} {ν : List α → Nat} (F : Wg K f μ) (h0 : ν [] = 0) (hc : ∀ x l, ν (x :: l) ≤ μ x + ν l) : ∀ n, Wg K (getsM f n) ν
  | 0 => fun b x r h => by obtain ⟨rfl, rfl⟩ := pure_inv h; show ν [] + _ ≤ _; rw [h0]; omega
  | n + 1 => fun b y r h => by
    rw [eqMs] at h
    obtain ⟨x, b1, h1, h2⟩ := bindR_inv h
    obtain ⟨l, b2, h3, h4⟩ := bindR_inv h2
    obtain ⟨rfl, rfl⟩ := pure_inv h4
    have := F b x b1 h1
    have := wgMs F h0 hc n b1 l b2 h3
    have := hc x l
    (try dsimp only at *); omega
theorem wgNm (K : Nat) (nm : Bool) : Wg K (nmR nm) (fun _ => 0) := by
  cases nm with
  | true => exact (wgText K).mono fun _ => Nat.zero_le _
  | false => intro b x r h; obtain ⟨rfl, rfl⟩ := pure_inv h; show 0 + K * _ ≤ K * _; omega
theorem wgEnt (K : Nat) (nm : Bool) : Wg K (entR nm) (fun p => K * (4 + p.2.bytes.length)) := by
  unfold entR
  rw [eqBoth]
  intro b y r h
  obtain ⟨x, b1, h1, h2⟩ := bindR_inv h
  obtain ⟨v, b2, h3, h4⟩ := bindR_inv h2
  obtain ⟨rfl, rfl⟩ := pure_inv h4
  have := wgNm K nm b x b1 h1
  have := wgValue K b1 v b2 h3
  (try dsimp only at *); omega
theorem wgVals (nm : Bool) : Wg 100000 (getVals nm) (fun l => 4 * costE l) := by
  intro b y r h
  obtain ⟨n, b1, h1, h2⟩ := bindR_inv h
  have e1 := wgN 100000 2 b n b1 h1
  have e2 := wgMs (ν := fun l => 4 * costE l) (wgEnt 100000 nm) rfl (fun x l => by show 4 * (65541 + x.2.bytes.length + costE l) ≤ 100000 * (4 + x.2.bytes.length) + 4 * costE l; omega) n b1 y r h2
  (try dsimp only at *); omega
theorem cost_els (nm : Bool) (l : List (B × Val)) : costE (elsQ (nmsV nm l) (l.map (·.2))) = costE l := by
  have hm : ∀ l : List (B × Val), costE (l.map fun p => (([] : B), p.2)) = costE l := by
    intro l
    induction l with
    | nil => rfl
    | cons x l ih => show 65541 + _ + costE _ = 65541 + _ + costE l; rw [ih]
  have hz : ∀ l : List (B × Val), costE ((l.map (·.1)).zip (l.map (·.2))) = costE l := by
    intro l
    induction l with
    | nil => rfl
    | cons x l ih => show 65541 + x.2.bytes.length + costE ((l.map (·.1)).zip (l.map (·.2))) = 65541 + _ + costE l; rw [ih]
  unfold elsQ nmsV
  cases nm with
  | false =>
    show costE ((l.map (·.2)).map fun v => ([], v)) = _
    rw [List.map_map]
    exact hm l
  | true =>
    rw [if_pos rfl]
    by_cases h : l.map (·.1) = []
    · rw [if_pos h, List.map_map]; exact hm l
    · rw [if_neg h]; exact hz l
theorem wgCons : Wg 100000 getCons (fun _ => 0) := by
  intro b y r h
  rw [eqCons] at h
  obtain ⟨n, b1, h1, h2⟩ := bindR_inv h
  have e1 := wgN 100000 2 b n b1 h1
  by_cases c : n > 10
  · rw [if_pos c] at h2; cases h2
  rw [if_neg c] at h2
  obtain ⟨rfl, rfl⟩ := pure_inv h2
  (try dsimp only at *); omega
theorem cons_lt {b r : B} {c : Nat} (h : getCons b = .ok (c, r)) : c < 65536 := by
  rw [eqCons] at h
  obtain ⟨n, b1, h1, h2⟩ := bindR_inv h
  by_cases c : n > 10
  · rw [if_pos c] at h2; cases h2
  rw [if_neg c] at h2
  obtain ⟨rfl, rfl⟩ := pure_inv h2
  (try dsimp only at *); omega
theorem wgOpt {K : Nat} {α : Type} {g : B → Res α} {μ : α → Nat} {c : Bool} {d : α} (G : Wg K g μ) (hd : μ d = 0) : Wg K (optR c d g) μ := by
  cases c with
  | true => exact G
  | false => intro b x r h; obtain ⟨rfl, rfl⟩ := pure_inv h; omega
theorem opt_inv {α : Type} {P : α → Prop} {g : B → Res α} {c : Bool} {d : α} (G : ∀ b x r, g b = .ok (x, r) → P x) (hd : P d) {b r : B} {x : α} (h : optR c d g b = .ok (x, r)) : P x := by
  cases c with
  | true => exact G _ _ _ h
  | false => obtain ⟨rfl, rfl⟩ := pure_inv h; exact hd
theorem run_wg (bt : Bool) : Wg 100000 (getRun bt) costR := by
  intro b p r h
  obtain ⟨c, b1, h1, h⟩ := bindR_inv h
  obtain ⟨f, b2, h2, h⟩ := bindR_inv h
  by_cases hf : flagsOk bt f = false
  · rw [if_pos hf] at h; cases h
  rw [if_neg hf] at h
  obtain ⟨l, b3, h3, h⟩ := bindR_inv h
  obtain ⟨pg, b4, h4, h⟩ := bindR_inv h
  obtain ⟨st, b5, h5, h⟩ := bindR_inv h
  obtain ⟨sr, b6, h6, h⟩ := bindR_inv h
  obtain ⟨tm, b7, h7, h⟩ := bindR_inv h
  obtain ⟨rfl, rfl⟩ := pure_inv h
  have e1 := wgCons b c b1 h1
  have e2 := wgN 100000 1 b1 f b2 h2
  have e3 : 4 * costE l + 100000 * b3.length ≤ 100000 * b2.length := by
    refine wgOpt (d := []) (μ := fun l => 4 * costE l) (fun b x r h => ?_) rfl _ _ _ h3
    obtain ⟨l', bx, g1, g2⟩ := bindR_inv h
    by_cases h0 : l'.length = 0
    · rw [if_pos h0] at g2; cases g2
    rw [if_neg h0] at g2
    obtain ⟨rfl, rfl⟩ := pure_inv g2
    exact wgVals _ _ _ _ g1
  have e4 := wgOpt ((wgNum 100000).mono (ν := fun _ => 0) fun _ => Nat.zero_le _) rfl _ _ _ h4
  have e5 := wgOpt (d := Val.none) ((wgValue 100000).mono (ν := fun v => v.bytes.length) fun _ => by omega) rfl _ _ _ h5
  have e6 := wgOpt wgCons rfl _ _ _ h6
  have e7 := wgOpt (K := 100000) (c := bitB f 5) (d := (0 : Int)) (μ := fun _ => 0) (fun b x r h => by
    obtain ⟨y, g, g1, g2⟩ := bindR_inv h
    obtain ⟨rfl, rfl⟩ := pure_inv g2
    have := wgN 100000 8 _ _ _ g1
    (try dsimp only at *); omega) rfl _ _ _ h7
  show 2 * costE (elsQ (nmsV (bitB f 6) l) (l.map (·.2))) + st.bytes.length + 100000 * b7.length ≤ _
  rw [cost_els]
  (try dsimp only at *); omega
theorem run_num {bt : Bool} {b r : B} {p : Par} (h : getRun bt b = .ok (p, r)) : ParN p := by
  obtain ⟨c, b1, h1, h⟩ := bindR_inv h
  obtain ⟨f, b2, h2, h⟩ := bindR_inv h
  by_cases hf : flagsOk bt f = false
  · rw [if_pos hf] at h; cases h
  rw [if_neg hf] at h
  obtain ⟨l, b3, h3, h⟩ := bindR_inv h
  obtain ⟨pg, b4, h4, h⟩ := bindR_inv h
  obtain ⟨st, b5, h5, h⟩ := bindR_inv h
  obtain ⟨sr, b6, h6, h⟩ := bindR_inv h
  obtain ⟨tm, b7, h7, h⟩ := bindR_inv h
  obtain ⟨rfl, rfl⟩ := pure_inv h
  refine ⟨cons_lt h1, opt_inv (P := fun c => c < 65536) (fun _ _ _ h => cons_lt h) (by decide) h6, ?_, ?_⟩
  · exact opt_inv (P := fun n : Int => -2147483648 ≤ n ∧ n ≤ 2147483647) (fun _ _ _ h => ⟨(getNum_ok h).2.2.1, (getNum_ok h).2.2.2.1⟩) (by decide) h4
  · refine opt_inv (P := fun n : Int => -9223372036854775808 ≤ n ∧ n ≤ 9223372036854775807) (fun b x r h => ?_) (by decide) h7
    obtain ⟨y, g, g1, g2⟩ := bindR_inv h
    obtain ⟨rfl, rfl⟩ := pure_inv g2
    have := (getN_ok g1).2.2.2
    unfold sgn
    simp only [Nat.reducePow, Nat.reduceDiv] at this ⊢
    split <;> omega
theorem stm_wg : Wg 100000 getStm (fun x => 2 * costT x) := by
  intro b x r h
  try dsimp only
  obtain ⟨k, b1, h1, h⟩ := bindR_inv h
  by_cases hk : 1 < k
  · rw [if_pos hk] at h; cases h
  rw [if_neg hk] at h
  obtain ⟨s, b2, h2, h⟩ := bindR_inv h
  obtain ⟨l, b3, h3, h⟩ := bindR_inv h
  obtain ⟨rfl, rfl⟩ := pure_inv h
  have e1 := wgN 100000 1 b k b1 h1
  have e3 := wgVals false b2 l b3 h3
  have e4 := cost_els false l
  change costE (elsQ [] (l.map (·.2))) = costE l at e4
  show 2 * (65600 + s.ident.length + s.text.length + 2 * costE (elsQ [] (l.map (·.2)))) + 100000 * b3.length ≤ _
  rw [e4]
  by_cases hk1 : k = 1
  · rw [if_pos hk1] at h2
    obtain ⟨t, b4, g4, g5⟩ := bindR_inv h2
    obtain ⟨rfl, rfl⟩ := pure_inv g5
    have e5 := wgText 100000 _ _ _ g4
    simp only [List.length_nil] at *
    (try dsimp only at *); omega
  · rw [if_neg hk1] at h2
    obtain ⟨t, b4, g4, g5⟩ := bindR_inv h2
    obtain ⟨rfl, rfl⟩ := pure_inv g5
    have e5 := wgLong 100000 _ _ _ g4
    simp only [List.length_nil] at *
    (try dsimp only at *); omega
/-- what is got is light, its numbers fit -/
theorem got_light {op : Nat} {b : B} {q : Rq} (hop : op < 256) (h : getRq op b = .ok q) : costQ q ≤ 100000 * b.length ∧ ParN q.run ∧ q.opcode = op ∧ q.kind < 256 := by
  have hp := getRq_parts h
  clear h
  have pn : ParN Par.none := ⟨by decide, by decide, ⟨by decide, by decide⟩, ⟨by decide, by decide⟩⟩
  unfold getParts at hp
  unfold costQ
  by_cases h1 : op = 1
  · rw [if_pos h1] at hp
    obtain ⟨l, b1, e1, e2⟩ := bindR_inv hp
    obtain ⟨rfl, rfl⟩ := pure_inv e2
    exact ⟨Nat.zero_le _, pn, rfl, Nat.zero_lt_succ 255⟩
  rw [if_neg h1] at hp
  by_cases h5 : op = 5
  · rw [if_pos h5] at hp
    obtain ⟨rfl, rfl⟩ := pure_inv hp
    exact ⟨Nat.zero_le _, pn, rfl, Nat.zero_lt_succ 255⟩
  rw [if_neg h5] at hp
  by_cases h7 : op = 7
  · rw [if_pos h7] at hp
    obtain ⟨s, b1, e1, e2⟩ := bindR_inv hp
    obtain ⟨p, b2, e3, e4⟩ := bindR_inv e2
    obtain ⟨rfl, rfl⟩ := pure_inv e4
    have g1 := wgLong 100000 _ _ _ e1
    have g2 := run_wg _ _ _ _ e3
    refine ⟨?_, run_num e3, rfl, Nat.zero_lt_succ 255⟩
    show 2 * 0 + costR p + s.length + 0 + 0 ≤ _
    (try dsimp only at *); omega
  rw [if_neg h7] at hp
  by_cases h9 : op = 9
  · rw [if_pos h9] at hp
    obtain ⟨s, b1, e1, e2⟩ := bindR_inv hp
    obtain ⟨rfl, rfl⟩ := pure_inv e2
    have g1 := wgLong 100000 _ _ _ e1
    refine ⟨?_, pn, rfl, Nat.zero_lt_succ 255⟩
    show 2 * 0 + 0 + s.length + 0 + 0 ≤ _
    (try dsimp only at *); omega
  rw [if_neg h9] at hp
  by_cases h10 : op = 10
  · rw [if_pos h10] at hp
    obtain ⟨s, b1, e1, e2⟩ := bindR_inv hp
    obtain ⟨p, b2, e3, e4⟩ := bindR_inv e2
    obtain ⟨rfl, rfl⟩ := pure_inv e4
    have g1 := wgText 100000 _ _ _ e1
    have g2 := run_wg _ _ _ _ e3
    refine ⟨?_, run_num e3, rfl, Nat.zero_lt_succ 255⟩
    show 2 * 0 + costR p + 0 + s.length + 0 ≤ _
    (try dsimp only at *); omega
  rw [if_neg h10] at hp
  by_cases h11 : op = 11
  · rw [if_pos h11] at hp
    obtain ⟨l, b1, e1, e2⟩ := bindR_inv hp
    obtain ⟨rfl, rfl⟩ := pure_inv e2
    exact ⟨Nat.zero_le _, pn, rfl, Nat.zero_lt_succ 255⟩
  rw [if_neg h11] at hp
  by_cases h15 : op = 15
  · rw [if_pos h15] at hp
    obtain ⟨l, b1, e1, e2⟩ := bindR_inv hp
    obtain ⟨rfl, rfl⟩ := pure_inv e2
    have g1 := wgValue 100000 _ _ _ e1
    refine ⟨?_, pn, rfl, Nat.zero_lt_succ 255⟩
    show 2 * 0 + 0 + 0 + 0 + l.bytes.length ≤ _
    (try dsimp only at *); omega
  rw [if_neg h15] at hp
  by_cases h13 : op = 13
  · rw [if_pos h13] at hp
    obtain ⟨k, b1, e1, e2⟩ := bindR_inv hp
    by_cases hk : 2 < k
    · rw [if_pos hk] at e2; cases e2
    rw [if_neg hk] at e2
    obtain ⟨l, b2, e3, e4⟩ := bindR_inv e2
    obtain ⟨p, b3, e5, e6⟩ := bindR_inv e4
    obtain ⟨rfl, rfl⟩ := pure_inv e6
    obtain ⟨n, b4, e7, e8⟩ := bindR_inv e3
    have g1 := wgN 100000 1 _ _ _ e1
    have g2 := wgN 100000 2 _ _ _ e7
    have g3 := wgMs (ν := fun l => 2 * costA l) stm_wg rfl (fun x l => by show 2 * (costT x + costA l) ≤ _; omega) n _ _ _ e8
    have g4 := run_wg _ _ _ _ e5
    refine ⟨?_, run_num e5, rfl, by show k < 256; omega⟩
    show 2 * costA l + costR p + 0 + 0 + 0 ≤ _
    (try dsimp only at *); omega
  rw [if_neg h13] at hp
  cases hp
/- what is written -/
theorem run_le (bt : Bool) (p : Par) : lenW (runQ bt p) ≤ 40 + costR p := by
  unfold runQ costR
  have h1 := lenW_both (cons p.cons) (bothW (mustQ (runOk bt p)) (bothW (.ok (enc 1 (flP p))) (bothW (optQ (decide (0 < p.values.length)) (valsQ p.names p.values)) (bothW (optQ p.paged (.ok (enc 4 (p.page % 4294967296).toNat))) (bothW (optQ p.resumed (value p.state)) (bothW (optQ p.serially (cons p.serial)) (optQ p.timed (.ok (enc 8 (p.time % 18446744073709551616).toNat)))))))))
  have h2 := lenW_both (mustQ (runOk bt p)) (bothW (.ok (enc 1 (flP p))) (bothW (optQ (decide (0 < p.values.length)) (valsQ p.names p.values)) (bothW (optQ p.paged (.ok (enc 4 (p.page % 4294967296).toNat))) (bothW (optQ p.resumed (value p.state)) (bothW (optQ p.serially (cons p.serial)) (optQ p.timed (.ok (enc 8 (p.time % 18446744073709551616).toNat))))))))
  have h3 := lenW_both (.ok (enc 1 (flP p))) (bothW (optQ (decide (0 < p.values.length)) (valsQ p.names p.values)) (bothW (optQ p.paged (.ok (enc 4 (p.page % 4294967296).toNat))) (bothW (optQ p.resumed (value p.state)) (bothW (optQ p.serially (cons p.serial)) (optQ p.timed (.ok (enc 8 (p.time % 18446744073709551616).toNat)))))))
  have h4 := lenW_both (optQ (decide (0 < p.values.length)) (valsQ p.names p.values)) (bothW (optQ p.paged (.ok (enc 4 (p.page % 4294967296).toNat))) (bothW (optQ p.resumed (value p.state)) (bothW (optQ p.serially (cons p.serial)) (optQ p.timed (.ok (enc 8 (p.time % 18446744073709551616).toNat))))))
  have h5 := lenW_both (optQ p.paged (.ok (enc 4 (p.page % 4294967296).toNat))) (bothW (optQ p.resumed (value p.state)) (bothW (optQ p.serially (cons p.serial)) (optQ p.timed (.ok (enc 8 (p.time % 18446744073709551616).toNat)))))
  have h6 := lenW_both (optQ p.resumed (value p.state)) (bothW (optQ p.serially (cons p.serial)) (optQ p.timed (.ok (enc 8 (p.time % 18446744073709551616).toNat))))
  have h7 := lenW_both (optQ p.serially (cons p.serial)) (optQ p.timed (.ok (enc 8 (p.time % 18446744073709551616).toNat)))
  have k1 := cons_w p.cons
  have k2 := must_len (runOk bt p)
  have k3 : lenW (.ok (enc 1 (flP p))) = 1 := enc_length _ _
  have k4 := opt_le (b := decide (0 < p.values.length)) (vals_le p.names p.values)
  have k5 := opt_le (b := p.paged) (r := .ok (enc 4 (p.page % 4294967296).toNat)) (n := 4) (by show (enc 4 _).length ≤ 4; rw [enc_length]; exact Nat.le_refl _)
  have k6 := opt_le (b := p.resumed) (value_le p.state)
  have k7 := opt_le (b := p.serially) (cons_w p.serial)
  have k8 := opt_le (b := p.timed) (r := .ok (enc 8 (p.time % 18446744073709551616).toNat)) (n := 8) (by show (enc 8 _).length ≤ 8; rw [enc_length]; exact Nat.le_refl _)
  omega
theorem put_le (q : Rq) : lenW (putRq q) ≤ 8600000000 + costQ q := by
  unfold putRq costQ
  have hr := run_le false q.run
  have hr2 := run_le true q.run
  have ht := long_w q.text
  have hi : lenW (text q.ident) ≤ 65537 := text_le _
  split
  · have := pairs_w q.options; omega
  split
  · exact Nat.zero_le _
  split
  · have := lenW_both (.ok (long q.text)) (runQ false q.run)
    have e : lenW (.ok (long q.text)) = (long q.text).length := rfl
    omega
  split
  · show (long q.text).length ≤ _; omega
  split
  · have := lenW_both (text q.ident) (runQ false q.run); omega
  split
  · have := texts_w q.events; omega
  split
  · have := value_le q.token; omega
  split
  · unfold batchQ
    have h1 := lenW_both (mustQ (decide (q.kind ≤ 2))) (bothW (.ok (enc 1 q.kind)) (bothW (cntQ q.all.length) (bothW (putsM stmQ q.all) (runQ true q.run))))
    have h2 := lenW_both (.ok (enc 1 q.kind)) (bothW (cntQ q.all.length) (bothW (putsM stmQ q.all) (runQ true q.run)))
    have h3 := lenW_both (cntQ q.all.length) (bothW (putsM stmQ q.all) (runQ true q.run))
    have h4 := lenW_both (putsM stmQ q.all) (runQ true q.run)
    have k1 := must_len (decide (q.kind ≤ 2))
    have k2 : lenW (.ok (enc 1 q.kind)) = 1 := enc_length _ _
    have k3 := cnt_len q.all.length
    have k4 := putsA_le q.all
    omega
  · exact Nat.zero_le _
/- how much a request of few parts weighs -/
theorem costE_few {M : Nat} : ∀ {l : List (B × Val)}, (∀ p ∈ l, p.2.bytes.length ≤ M) → costE l ≤ l.length * (65541 + M)
  | [], _ => Nat.zero_le _
  | x :: l, h => by
    have h1 := h x (List.mem_cons_self ..)
    have h2 := costE_few (l := l) fun p hp => h p (List.mem_cons_of_mem _ hp)
    show 65541 + x.2.bytes.length + costE l ≤ (l.length + 1) * _
    rw [Nat.add_mul]
    omega
theorem els_few {M : Nat} {names : List B} {l : List Val} (h : ∀ v ∈ l, v.bytes.length ≤ M) : costE (elsQ names l) ≤ l.length * (65541 + M) := by
  have hm : ∀ p ∈ elsQ names l, p.2 ∈ l := by
    intro p hp
    unfold elsQ at hp
    split at hp
    · obtain ⟨v, hv, rfl⟩ := List.mem_map.1 hp; exact hv
    · exact (List.of_mem_zip hp).2
  have hl : (elsQ names l).length ≤ l.length := by
    unfold elsQ
    split
    · rw [List.length_map]; exact Nat.le_refl _
    · rw [List.length_zip]; omega
  have := costE_few (M := M) fun p hp => h _ (hm p hp)
  exact Nat.le_trans this (Nat.mul_le_mul_right _ hl)
/-- how many values the statements have -/
def cntS (l : List Stm) : Nat := (l.map fun x => x.values.length).sum
theorem costA_few {M : Nat} : ∀ {l : List Stm}, (∀ x ∈ l, x.text.length ≤ M ∧ x.ident.length ≤ M ∧ ∀ v ∈ x.values, v.bytes.length ≤ M) → costA l ≤ (l.length + 2 * cntS l) * (65600 + 2 * M)
  | [], _ => Nat.zero_le _
  | x :: l, h => by
    obtain ⟨h1, h2, h3⟩ := h x (List.mem_cons_self ..)
    have h4 := costA_few (l := l) fun p hp => h p (List.mem_cons_of_mem _ hp)
    have h5 := els_few (names := []) h3
    have h6 : x.values.length * (65541 + M) ≤ x.values.length * (65600 + 2 * M) := Nat.mul_le_mul_left _ (by omega)
    have h7 : cntS (x :: l) = x.values.length + cntS l := rfl
    have h8 : (l.length + 1 + 2 * (x.values.length + cntS l)) * (65600 + 2 * M) = (l.length + 2 * cntS l) * (65600 + 2 * M) + (65600 + 2 * M) + 2 * (x.values.length * (65600 + 2 * M)) := by
      rw [show l.length + 1 + 2 * (x.values.length + cntS l) = (l.length + 2 * cntS l) + 1 + 2 * x.values.length by omega, Nat.add_mul, Nat.add_mul, Nat.one_mul, Nat.mul_assoc]
    show 65600 + x.ident.length + x.text.length + 2 * costE (elsQ [] x.values) + costA l ≤ (l.length + 1 + 2 * cntS (x :: l)) * _
    rw [h7, h8]
    omega
/- what is got of what was put weighs no more -/
theorem norm_len (v : Val) : v.norm.bytes.length ≤ v.bytes.length := by
  unfold Val.norm
  split
  · exact Nat.le_refl _
  · exact Nat.zero_le _
theorem costE_norm : ∀ l : List (B × Val), costE (l.map fun p => (p.1, p.2.norm)) ≤ costE l
  | [] => Nat.le_refl _
  | x :: l => by
    have h1 := norm_len x.2
    have h2 := costE_norm l
    show 65541 + x.2.norm.bytes.length + costE (l.map fun p => (p.1, p.2.norm)) ≤ 65541 + x.2.bytes.length + costE l
    omega
theorem els_norm (names : List B) (l : List Val) : costE (elsQ names (l.map Val.norm)) ≤ costE (elsQ names l) := by
  have h : elsQ names (l.map Val.norm) = (elsQ names l).map fun p => (p.1, p.2.norm) := by
    unfold elsQ
    split
    · rw [List.map_map, List.map_map]; rfl
    · rw [List.zip_map_right]; rfl
  rw [h]
  exact costE_norm _
theorem costR_norm (p : Par) : costR p.norm ≤ costR p := by
  have h1 := els_norm p.names p.values
  have h2 := norm_len p.state
  have h3 : (if p.resumed then p.state.norm else Val.none).bytes.length ≤ p.state.bytes.length := by
    split
    · exact h2
    · exact Nat.zero_le _
  show 2 * costE (elsQ p.names (p.values.map Val.norm)) + (if p.resumed then p.state.norm else Val.none).bytes.length ≤ 2 * costE (elsQ p.names p.values) + p.state.bytes.length
  omega
theorem costT_norm (x : Stm) : costT x.norm ≤ costT x := by
  have h1 := els_norm [] x.values
  unfold Stm.norm
  split
  · show 65600 + x.ident.length + 0 + 2 * costE (elsQ [] (x.values.map Val.norm)) ≤ 65600 + x.ident.length + x.text.length + 2 * costE (elsQ [] x.values); omega
  · show 65600 + 0 + x.text.length + 2 * costE (elsQ [] (x.values.map Val.norm)) ≤ 65600 + x.ident.length + x.text.length + 2 * costE (elsQ [] x.values); omega
theorem costA_norm : ∀ l : List Stm, costA (l.map Stm.norm) ≤ costA l
  | [] => Nat.le_refl _
  | x :: l => by
    have h1 := costT_norm x
    have h2 := costA_norm l
    show costT x.norm + costA (l.map Stm.norm) ≤ costT x + costA l
    omega
theorem costQ_norm (q : Rq) : costQ q.norm ≤ costQ q := by
  have h1 := costR_norm q.run
  have h2 := costA_norm q.all
  have h3 := norm_len q.token
  unfold Rq.norm
  split
  · exact Nat.zero_le _
  split
  · exact Nat.zero_le _
  split
  · show 2 * 0 + costR q.run.norm + q.text.length + 0 + 0 ≤ 2 * costA q.all + costR q.run + q.text.length + q.ident.length + q.token.bytes.length; omega
  split
  · show 2 * 0 + 0 + q.text.length + 0 + 0 ≤ 2 * costA q.all + costR q.run + q.text.length + q.ident.length + q.token.bytes.length; omega
  split
  · show 2 * 0 + costR q.run.norm + 0 + q.ident.length + 0 ≤ 2 * costA q.all + costR q.run + q.text.length + q.ident.length + q.token.bytes.length; omega
  split
  · exact Nat.zero_le _
  split
  · show 2 * 0 + 0 + 0 + 0 + q.token.norm.bytes.length ≤ 2 * costA q.all + costR q.run + q.text.length + q.ident.length + q.token.bytes.length; omega
  · show 2 * costA (q.all.map Stm.norm) + costR q.run.norm + 0 + 0 + 0 ≤ 2 * costA q.all + costR q.run + q.text.length + q.ident.length + q.token.bytes.length; omega
/- no error is nought -/
def Nw (r : Wr) : Prop := ∀ e, r = .error e → e ≠ 0
theorem Nw.both {r s : Wr} (h : Nw r) (k : Nw s) : Nw (bothW r s) := fun _ e => bothW_ne h k e
theorem Nw.ok (b : B) : Nw (.ok b) := fun _ h => by cases h
theorem Nw.ite {c : Prop} [Decidable c] {r s : Wr} (h : Nw r) (k : Nw s) : Nw (if c then r else s) := by
  split
  · exact h
  · exact k
theorem Nw.err {e : Int} (h : e ≠ 0) : Nw (.error e) := fun _ h2 => by injection h2 with h2; exact h2 ▸ h
theorem nwMs {α : Type} {f : α → Wr} (h : ∀ x, Nw (f x)) : ∀ l, Nw (putsM f l)
  | [] => Nw.ok _
  | x :: l => by rw [putsM_cons]; exact (h x).both (nwMs h l)
theorem nwCnt (n : Nat) : Nw (cntQ n) := Nw.ite (Nw.err (by decide)) (Nw.ok _)
theorem nwMust (b : Bool) : Nw (mustQ b) := Nw.ite (Nw.ok _) (Nw.err (by decide))
theorem nwText (s : B) : Nw (text s) := fun _ h => text_ne h
theorem nwValue (v : Val) : Nw (value v) := fun _ h => value_ne h
theorem nwCons (c : Nat) : Nw (cons c) := fun _ h => cons_ne8 h
theorem nwOpt {b : Bool} {r : Wr} (h : Nw r) : Nw (optQ b r) := by cases b; exact Nw.ok _; exact h
theorem nwVals (names : List B) (l : List Val) : Nw (valsQ names l) := (nwCnt _).both (nwMs (fun _ => (Nw.ite (nwText _) (Nw.ok _)).both (nwValue _)) _)
theorem nwRun (bt : Bool) (p : Par) : Nw (runQ bt p) :=
  (nwCons _).both ((nwMust _).both ((Nw.ok _).both ((nwOpt (nwVals _ _)).both ((nwOpt (Nw.ok _)).both ((nwOpt (nwValue _)).both ((nwOpt (nwCons _)).both (nwOpt (Nw.ok _))))))))
theorem nwStm (x : Stm) : Nw (stmQ x) := (Nw.ok _).both ((Nw.ite (nwText _) (Nw.ok _)).both (nwVals _ _))
theorem nwRq (q : Rq) : Nw (putRq q) :=
  .ite (fun _ h => putL_ne (fun _ _ h => pairW_ne h) h) (.ite (.ok _) (.ite ((Nw.ok _).both (nwRun _ _)) (.ite (.ok _) (.ite ((nwText _).both (nwRun _ _)) (.ite (fun _ h => texts_ne h) (.ite (nwValue _)
    (.ite ((nwMust _).both ((Nw.ok _).both ((nwCnt _).both ((nwMs nwStm _).both (nwRun _ _))))) (.err (by decide)))))))))
theorem putRq_ne {q : Rq} {e : Int} (h : putRq q = .error e) : e ≠ 0 := nwRq q e h
end Sb
