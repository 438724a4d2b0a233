/- Plain mathematics of rows (layer 10): got, put, what is put is got; no program in sight. No conditions. -/
import Derived.Test.YtenhgcgdhaegaaaDoorRqm
import Derived.Test.YtenhgcgdhaegaaaDoorPlanq
set_option linter.unusedVariables false
set_option linter.unusedSimpArgs false
namespace Sb
/-- a column -/
structure Col where
  space : B
  table : B
  name : B
  type : Opt
def Col.none : Col := ⟨[], [], [], Opt.none⟩
/-- columns and rows -/
structure Tb where
  count : Int
  cols : List Col
  more : Bool
  state : Val
  rows : List (List Val)
def Tb.none : Tb := ⟨0, [], false, Val.none, []⟩
/-- how many -/
def getCnt (b : B) : Res Nat := bindR (getNum b) fun n b => if decide (0 ≤ n) = false then .error 11 else if decide (n ≤ 4096) = false then .error 12 else .ok (n.toNat, b)
/-- a space and a table -/
def nmsR (b : B) : Res (B × B) := bothR getText getText b
def colR (glob : Bool) (all : B × B) (b : B) : Res Col :=
  bindR (optR (!glob) all nmsR b) fun p b => bindR (getText b) fun n b => bindR (getO 20 b) fun o b => .ok (⟨p.1, p.2, n, o⟩, b)
/-- places of keys -/
def placesR (n : Nat) (b : B) : Res (List Nat) := bindR (getCnt b) fun m b => bindR (getsM (getN 2) m b) fun l b => if (l.all fun k => decide (k < n)) = false then .error 11 else .ok (l, b)
def flagsT (f : Int) : Bool := decide (0 ≤ f ∧ f ≤ 7)
def mkT (n : Nat) (cs : List Col) (more : Bool) (st : Val) : Tb := ⟨n, cs, more, st, []⟩
/-- columns, with places of keys or without -/
def colsT (f n : Nat) (b : B) : Res (List Col) := if bitB f 2 then .ok ([], b) else bindR (optR (bitB f 0) ([], []) nmsR b) fun p b => getsM (colR (bitB f 0) p) n b
def colsR (keys : Bool) (b : B) : Res (Tb × List Nat) :=
  bindR (getNum b) fun f b => if flagsT f = false then .error 21 else
  bindR (getCnt b) fun n b => bindR (optR keys [] (placesR n) b) fun l b => bindR (optR (bitB f.toNat 1) Val.none getValue b) fun st b =>
  bindR (colsT f.toNat n b) fun cs b => .ok ((mkT n cs (bitB f.toNat 1) st, l), b)
/-- a value of a row -/
def valT (b : B) : Res Val := bindR (getValue b) fun v b => if decide (v.kind ≠ 1) = false then .error 11 else .ok (v, b)
def rowsT (m n : Nat) (b : B) : Res (List (List Val)) := getsM (getsM valT m) n b
def tbR (b : B) : Res Tb := bindR (colsR false b) fun p b => bindR (getCnt b) fun n b => bindR (rowsT p.1.count.toNat n b) fun l b => .ok ({ p.1 with rows := l }, b)
def endR {α : Type} (g : B → Res α) (b : B) : Except Int α := match g b with
  | .error e => .error e
  | .ok (x, r) => if r.length = 0 then .ok x else .error 23
def getTb (b : B) : Except Int Tb := endR tbR b
def metaR (b : B) : Res (List Nat × Tb × Tb) := bindR (colsR true b) fun p b => bindR (colsR false b) fun q b => .ok ((p.2, p.1, q.1), b)
def getMeta (b : B) : Except Int (List Nat × Tb × Tb) := endR metaR b

/-! ## cut, and errors -/
theorem getO_eq (n : Nat) : getO (n + 1) = fun b => bindR (getN 2 b) fun id r => if kn id = -2 then .error 11 else bindR (headR id r) fun h r => bindR (cntR id r) fun m r => bindR (getsM (kidR (getO n) id) m r) fun l r => .ok (mkO id h l, r) := by
  funext b
  rw [getO]
  unfold bindR
  cases getN 2 b with
  | error e => rfl
  | ok p =>
    obtain ⟨id, r⟩ := p
    simp only
    split
    · rfl
    · cases h1 : headR id r with
      | error e => simp only [h1]
      | ok p =>
        obtain ⟨h, r1⟩ := p
        simp only [h1]
        cases h2 : cntR id r1 with
        | error e => simp only [h2]
        | ok p =>
          obtain ⟨m, r2⟩ := p
          simp only [h2]
          cases h3 : getsM (kidR (getO n) id) m r2 <;> simp only [h3]
theorem headR_eq (id : Nat) : headR id = fun b => if id = 48 then bothR getText getText b else if id = 0 then bindR (getText b) fun x r => .ok (([], x), r) else .ok (([], []), b) := by
  funext b
  unfold headR bindR
  split
  · rfl
  · split
    · cases getText b <;> rfl
    · rfl
theorem lcO : ∀ n, Lc (getO n)
  | 0 => .err 13
  | n + 1 => by
    rw [getO_eq]
    refine (lcN 2).bind fun id => .ite (.err 11) (.bind ?_ fun h => .bind ?_ fun m => (lcMs ?_ m).bind fun l => .pure _)
    · rw [headR_eq]
      exact .ite (lcBoth lcText lcText) (.ite (lcText.bind fun x => .pure _) (.pure _))
    · exact .ite (lcN 2) (.pure _)
    · exact lcBoth (.ite lcText (.pure _)) (lcO n)
theorem nzO : ∀ n, Nz (getO n)
  | 0 => .err (by decide)
  | n + 1 => by
    rw [getO_eq]
    refine (nzN 2).bind fun id => .ite (.err (by decide)) (.bind ?_ fun h => .bind ?_ fun m => (nzMs ?_ m).bind fun l => .pure _)
    · rw [headR_eq]
      exact .ite (nzBoth nzText nzText) (.ite (nzText.bind fun x => .pure _) (.pure _))
    · exact .ite (nzN 2) (.pure _)
    · exact nzBoth (.ite nzText (.pure _)) (nzO n)
theorem lcCnt : Lc getCnt := lcNum.bind fun n => .ite (.err 11) (.ite (.err 12) (.pure _))
theorem nzCnt : Nz getCnt := nzNum.bind fun n => .ite (.err (by decide)) (.ite (.err (by decide)) (.pure _))
theorem lcNms : Lc nmsR := lcBoth lcText lcText
theorem nzNms : Nz nmsR := nzBoth nzText nzText
theorem lcCol (g : Bool) (p : B × B) : Lc (colR g p) := (lcOpt lcNms).bind fun p => lcText.bind fun n => (lcO 20).bind fun o => .pure _
theorem nzCol (g : Bool) (p : B × B) : Nz (colR g p) := (nzOpt nzNms).bind fun p => nzText.bind fun n => (nzO 20).bind fun o => .pure _
theorem lcPlaces (n : Nat) : Lc (placesR n) := lcCnt.bind fun m => (lcMs (lcN 2) m).bind fun l => .ite (.err 11) (.pure _)
theorem nzPlaces (n : Nat) : Nz (placesR n) := nzCnt.bind fun m => (nzMs (nzN 2) m).bind fun l => .ite (.err (by decide)) (.pure _)
theorem lcColsT (f n : Nat) : Lc (colsT f n) := .ite (.pure _) ((lcOpt lcNms).bind fun p => lcMs (lcCol _ p) n)
theorem nzColsT (f n : Nat) : Nz (colsT f n) := .ite (.pure _) ((nzOpt nzNms).bind fun p => nzMs (nzCol _ p) n)
theorem lcCols (keys : Bool) : Lc (colsR keys) := lcNum.bind fun f => .ite (.err 21) (lcCnt.bind fun n => (lcOpt (lcPlaces n)).bind fun l => (lcOpt lcValue).bind fun st => (lcColsT _ n).bind fun cs => .pure _)
theorem nzCols (keys : Bool) : Nz (colsR keys) := nzNum.bind fun f => .ite (.err (by decide)) (nzCnt.bind fun n => (nzOpt (nzPlaces n)).bind fun l => (nzOpt nzValue).bind fun st => (nzColsT _ n).bind fun cs => .pure _)
theorem lcValT : Lc valT := lcValue.bind fun v => .ite (.err 11) (.pure _)
theorem nzValT : Nz valT := nzValue.bind fun v => .ite (.err (by decide)) (.pure _)
theorem lcRowsT (m n : Nat) : Lc (rowsT m n) := lcMs (lcMs lcValT m) n
theorem nzRowsT (m n : Nat) : Nz (rowsT m n) := nzMs (nzMs nzValT m) n
theorem lcTb : Lc tbR := (lcCols false).bind fun p => lcCnt.bind fun n => (lcRowsT _ n).bind fun l => .pure _
theorem nzTb : Nz tbR := (nzCols false).bind fun p => nzCnt.bind fun n => (nzRowsT _ n).bind fun l => .pure _
theorem nzMeta : Nz metaR := (nzCols true).bind fun p => (nzCols false).bind fun q => .pure _
theorem endR_ne {α : Type} {g : B → Res α} (G : Nz g) {b : B} {e : Int} (h : endR g b = .error e) : e ≠ 0 := by
  unfold endR at h
  cases hp : g b with
  | error e' => rw [hp] at h; injection h with h; rw [← h]; exact G b e' hp
  | ok p =>
    obtain ⟨x, r⟩ := p
    rw [hp] at h
    simp only at h
    split at h
    · cases h
    · injection h with h; rw [← h]; decide
theorem endR_ok {α : Type} {g : B → Res α} {b : B} {x : α} (h : endR g b = .ok x) : g b = .ok (x, []) := by
  unfold endR at h
  cases hp : g b with
  | error e => rw [hp] at h; cases h
  | ok p =>
    obtain ⟨y, r⟩ := p
    rw [hp] at h
    simp only at h
    split at h
    · rename_i h0
      injection h with h
      rw [h, List.length_eq_zero_iff.1 h0]
    · cases h
theorem endR_of {α : Type} {g : B → Res α} {b : B} {x : α} (h : g b = .ok (x, [])) : endR g b = .ok x := by unfold endR; rw [h]; rfl
/-- a table, with a byte behind it, is none -/
theorem getTb_more {b : B} {t : Tb} (m : UInt8) (h : getTb b = .ok t) : getTb (b ++ [m]) = .error 23 := by
  obtain ⟨y, e, l, c⟩ := lcTb b t [] (endR_ok h)
  rw [List.append_nil] at e
  subst e
  unfold getTb endR
  rw [l [m]]
  rfl
/-- a table, cut, ends too early -/
theorem getTb_cut {b : B} {t : Tb} {k : Nat} (h : getTb b = .ok t) (hk : k < b.length) : getTb (b.take k) = .error 10 := by
  obtain ⟨y, e, l, c⟩ := lcTb b t [] (endR_ok h)
  rw [List.append_nil] at e
  subst e
  unfold getTb endR
  rw [c k hk]

/-! ## put -/
/-- all columns are of the first one's table -/
def sameT (cs : List Col) : Bool := match cs with
  | [] => true
  | c :: l => l.all fun d => decide (d.space = c.space ∧ d.table = c.table)
/-- a row that may be put -/
def rowOk (n : Int) (l : List Val) : Bool := decide ((l.length : Int) = n) && l.all fun v => decide (v.kind ≠ 1)
/-- may a table be put? -/
def fitsT (t : Tb) (one : Bool) : Bool := decide (0 ≤ t.count ∧ t.count ≤ 4096 ∧ t.rows.length ≤ 4096 ∧ (t.cols.length = 0 ∨ (t.cols.length : Int) = t.count)) && (!(one && !sameT t.cols) && t.rows.all (rowOk t.count))
def oneT (t : Tb) (one : Bool) : Bool := one && decide (0 < t.cols.length)
def putF (t : Tb) (one : Bool) : Nat := (oneT t one).toNat + 2 * t.more.toNat + 4 * (decide ((t.cols.length : Int) < t.count)).toNat
def nmsW (c : Col) : Wr := bothW (text c.space) (text c.table)
def allW (g : Bool) (cs : List Col) : Wr := match cs with
  | [] => .ok []
  | c :: _ => if g then nmsW c else .ok []
def colW (D : Nat) (g : Bool) (c : Col) : Wr := bothW (if g then .ok [] else nmsW c) (bothW (text c.name) (putW D c.type))
/-- a table's bytes -/
def putT (D : Nat) (t : Tb) (one : Bool) : Wr :=
  bothW (.ok (enc 4 (putF t one))) (bothW (.ok (enc 4 t.count.toNat)) (bothW (if t.more then value t.state else .ok []) (bothW (allW (oneT t one) t.cols) (bothW (putsM (colW D (oneT t one)) t.cols) (bothW (.ok (enc 4 t.rows.length)) (putsM (putsM value) t.rows))))))
def putTb (D : Nat) (t : Tb) (one : Bool) : Wr := if fitsT t one = false then .error 1 else putT D t one
/-- as what a table is got that was put -/
def Col.norm (D : Nat) (c : Col) : Col := { c with type := normD D c.type }
def Tb.norm (D : Nat) (t : Tb) : Tb := ⟨t.count, t.cols.map (Col.norm D), t.more, if t.more then t.state.norm else Val.none, t.rows.map (·.map Val.norm)⟩
theorem bitB_f (a b c : Bool) : bitB (a.toNat + 2 * b.toNat + 4 * c.toNat) 0 = a ∧ bitB (a.toNat + 2 * b.toNat + 4 * c.toNat) 1 = b ∧ bitB (a.toNat + 2 * b.toNat + 4 * c.toNat) 2 = c := by
  cases a <;> cases b <;> cases c <;> decide
theorem getCnt_back {n : Nat} {r : B} (h : n ≤ 4096) : getCnt (enc 4 n ++ r) = .ok (n, r) := by
  unfold getCnt
  rw [bindR_ok (getNum_back (by omega)), sgn4_small (by omega), if_neg (by simp), if_neg (by simp; omega)]
  rfl
theorem nms_back : Back (fun _ : Col => True) nmsW nmsR (fun c => (c.space, c.table)) := fun c b r _ h =>
  both_back (text_back fun _ => True) (text_back fun _ => True) (c.space, c.table) b r ⟨trivial, trivial⟩ h
theorem col_back (D : Nat) (g : Bool) (all : B × B) : Back (fun c : Col => g = true → (c.space, c.table) = all) (colW D g) (colR g all) (Col.norm D) := by
  intro c b r hc h
  unfold colW at h
  obtain ⟨a, b1, h1, h2, rfl⟩ := bothW_ok h
  obtain ⟨a2, b2, h3, h4, rfl⟩ := bothW_ok h2
  have e1 : optR (!g) all nmsR (a ++ (a2 ++ b2) ++ r) = .ok ((c.space, c.table), a2 ++ (b2 ++ r)) := by
    cases g with
    | true =>
      injection h1 with h1
      subst h1
      rw [hc rfl]
      simp [optR]
    | false =>
      have := nms_back c a (a2 ++ (b2 ++ r)) trivial h1
      simpa [optR, List.append_assoc] using this
  unfold colR
  rw [bindR_ok e1, bindR_ok (text_back (fun _ => True) c.name a2 (b2 ++ r) trivial h3), bindR_ok (put_got h4).1]
  rfl
theorem val_back : Back (fun v : Val => val31 v ∧ v.kind ≠ 1) value valT Val.norm := by
  intro v b r hv h
  unfold valT
  rw [bindR_ok (value_back v b r hv.1 h), if_neg]
  simp only [decide_eq_false_iff_not, Decidable.not_not]
  unfold Val.norm
  split <;> exact hv.2
theorem same_all {c : Col} {l : List Col} (h : sameT (c :: l) = true) : ∀ d ∈ c :: l, (d.space, d.table) = (c.space, c.table) := by
  intro d hd
  rcases List.mem_cons.1 hd with rfl | hd
  · rfl
  · have := of_decide_eq_true (List.all_eq_true.1 h d hd)
    rw [this.1, this.2]
theorem rows_back {n : Nat} {l : List (List Val)} {b : B} (r : B) (hl : ∀ x ∈ l, x.length = n ∧ ∀ v ∈ x, val31 v ∧ v.kind ≠ 1) (h : putsM (putsM value) l = .ok b) : rowsT n l.length (b ++ r) = .ok (l.map (·.map Val.norm), r) := by
  refine putsM_back (D := fun x : List Val => x.length = n ∧ ∀ v ∈ x, val31 v ∧ v.kind ≠ 1) (fun x b r hx hb => ?_) l b r hl h
  obtain ⟨rfl, hv⟩ := hx
  exact putsM_back val_back x b r hv hb
/-- values that may be told -/
def Tb.ok31 (t : Tb) : Prop := val31 t.state ∧ ∀ x ∈ t.rows, ∀ v ∈ x, val31 v
theorem cols_back {D : Nat} {g : Bool} {cs : List Col} {a b : B} (f n : Nat) (r : B) (hf0 : bitB f 0 = g) (hf2 : bitB f 2 = decide (cs.length < n)) (hn : cs.length = 0 ∨ cs.length = n) (hg : g = true → 0 < cs.length ∧ sameT cs = true) (ha : allW g cs = .ok a) (hb : putsM (colW D g) cs = .ok b) :
    colsT f n (a ++ (b ++ r)) = .ok (cs.map (Col.norm D), r) := by
  unfold colsT
  rw [hf2, hf0]
  by_cases hlt : cs.length < n
  · rw [decide_eq_true hlt, if_pos rfl]
    have h0 : cs = [] := List.length_eq_zero_iff.1 (by omega)
    subst h0
    injection ha with ha
    injection hb with hb
    subst ha hb
    rfl
  · rw [decide_eq_false hlt, if_neg (by simp)]
    have hn' : n = cs.length := by omega
    subst hn'
    cases cs with
    | nil =>
      cases g with
      | true => have := (hg rfl).1; simp at this
      | false =>
        injection ha with ha
        injection hb with hb
        subst ha hb
        rfl
    | cons c l =>
      have e : optR g ([], []) nmsR (a ++ (b ++ r)) = .ok (if g then (c.space, c.table) else ([], []), b ++ r) := by
        cases g with
        | true => exact nms_back c a (b ++ r) trivial ha
        | false => injection ha with ha; subst ha; rfl
      rw [bindR_ok e]
      refine putsM_back (col_back D g _) (c :: l) b r (fun d hd hgt => ?_) hb
      subst hgt
      exact same_all (hg rfl).2 d hd
/-- what is put is got -/
theorem tb_back {D : Nat} {t : Tb} {one : Bool} {b : B} (hv : t.ok31) (h : putTb D t one = .ok b) : getTb b = .ok (t.norm D) := by
  unfold putTb at h
  split at h
  · cases h
  rename_i hfit
  have hfit : fitsT t one = true := by cases hq : fitsT t one <;> simp_all
  unfold fitsT at hfit
  simp only [Bool.and_eq_true] at hfit
  obtain ⟨h1, h2, h3⟩ := hfit
  obtain ⟨hc0, hc1, hr, hcl⟩ := of_decide_eq_true h1
  unfold putT at h
  obtain ⟨a1, b1, e1, g1, rfl⟩ := bothW_ok h
  obtain ⟨a2, b2, e2, g2, rfl⟩ := bothW_ok g1
  obtain ⟨a3, b3, e3, g3, rfl⟩ := bothW_ok g2
  obtain ⟨a4, b4, e4, g4, rfl⟩ := bothW_ok g3
  obtain ⟨a5, b5, e5, g5, rfl⟩ := bothW_ok g4
  obtain ⟨a6, b6, e6, e7, rfl⟩ := bothW_ok g5
  clear h g1 g2 g3 g4 g5
  injection e1 with e1
  injection e2 with e2
  injection e6 with e6
  subst e1 e2 e6
  obtain ⟨n, hn⟩ : ∃ n : Nat, t.count = n := ⟨t.count.toNat, by omega⟩
  have hnt : t.count.toNat = n := by omega
  rw [hnt]
  have hF : putF t one ≤ 7 := by unfold putF; cases oneT t one <;> cases t.more <;> cases decide ((t.cols.length : Int) < t.count) <;> decide
  have hbits := bitB_f (oneT t one) t.more (decide ((t.cols.length : Int) < t.count))
  obtain ⟨q0, q1, q2⟩ := hbits
  change bitB (putF t one) 0 = _ at q0
  change bitB (putF t one) 1 = _ at q1
  change bitB (putF t one) 2 = _ at q2
  apply endR_of
  unfold tbR colsR
  have hf : sgn 4 (putF t one) = (putF t one : Int) := sgn4_small (by omega)
  have hfl : flagsT (putF t one : Int) = true := by unfold flagsT; exact decide_eq_true ⟨by omega, by omega⟩
  have hst : optR t.more Val.none getValue (a3 ++ (a4 ++ (a5 ++ (enc 4 t.rows.length ++ b6)))) = .ok (if t.more then t.state.norm else Val.none, a4 ++ (a5 ++ (enc 4 t.rows.length ++ b6))) := by
    cases hm : t.more with
    | true => rw [hm, if_pos rfl] at e3; exact value_back t.state a3 _ hv.1 e3
    | false => rw [hm] at e3; injection e3 with e3; subst e3; rfl
  have hcb := cols_back (D := D) (g := oneT t one) (putF t one) n (enc 4 t.rows.length ++ b6) q0 (by rw [q2, hn]; exact decide_eq_decide.2 (by omega)) (by omega) (fun hg => by
    unfold oneT at hg
    simp only [Bool.and_eq_true] at hg
    refine ⟨of_decide_eq_true hg.2, ?_⟩
    rw [hg.1] at h2
    simpa using h2) e4 e5
  have hrb := rows_back (n := n) [] (fun x hx => by
    have := List.all_eq_true.1 h3 x hx
    unfold rowOk at this
    simp only [Bool.and_eq_true] at this
    have hxl := of_decide_eq_true this.1
    exact ⟨by omega, fun v hv' => ⟨hv.2 x hx v hv', of_decide_eq_true (List.all_eq_true.1 this.2 v hv')⟩⟩) e7
  rw [List.append_nil] at hrb
  have hcols : colsR false (enc 4 (putF t one) ++ (enc 4 n ++ (a3 ++ (a4 ++ (a5 ++ (enc 4 t.rows.length ++ b6)))))) = .ok ((mkT n (t.cols.map (Col.norm D)) t.more (if t.more then t.state.norm else Val.none), []), enc 4 t.rows.length ++ b6) := by
    unfold colsR
    rw [bindR_ok (getNum_back (by omega)), hf, if_neg (by rw [hfl]; decide), bindR_ok (getCnt_back (by omega))]
    rw [bindR_ok (show optR false ([] : List Nat) (placesR n) (a3 ++ (a4 ++ (a5 ++ (enc 4 t.rows.length ++ b6)))) = .ok ([], _) from rfl)]
    rw [Int.toNat_natCast, q1, bindR_ok hst, bindR_ok hcb]
  have hcols' := hcols
  unfold colsR at hcols'
  rw [bindR_ok hcols', bindR_ok (getCnt_back hr)]
  simp only [mkT, Int.toNat_natCast]
  rw [bindR_ok hrb]
  simp only [Tb.norm, hn]
end Sb
