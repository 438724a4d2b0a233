/- Walk over the closure of rows.Put; what holds along Put. Conditions: what is put is at most 2^47 bytes. -/
import Derived.Test.YtenhgcgdhaegaaaDoorTap
import Derived.Test.YtenhgcgdhaegaaaDoorOptp
set_option linter.unusedVariables false
set_option linter.unusedSimpArgs false
namespace Sb
theorem bothW_assoc (a b c : Wr) : bothW a (bothW b c) = bothW (bothW a b) c := by cases a <;> cases b <;> cases c <;> simp [bothW]
theorem bothW_nilT (k : Wr) : bothW k (.ok []) = k := by cases k <;> simp [bothW]
theorem bothW_okN (k : Wr) : bothW (.ok []) k = k := by cases k <;> simp [bothW]
theorem bothW_e (e : Int) (k : Wr) : bothW (.error e) k = .error e := rfl
theorem putsM_snocT {α : Type} (f : α → Wr) : ∀ {l : List α} {k : Nat} {x : α}, l[k]? = some x → putsM f (l.take (k + 1)) = bothW (putsM f (l.take k)) (f x)
  | [], _, _, h => by cases h
  | y :: l, 0, x, h => by
    injection h with h
    subst h
    show putsM f [y] = bothW (.ok []) (f y)
    unfold putsM putsM
    cases f y <;> simp [bothW]
  | y :: l, k + 1, x, h => by
    have ih := putsM_snocT f (l := l) (k := k) (x := x) h
    show putsM f (y :: l.take (k + 1)) = bothW (putsM f (y :: l.take k)) (f x)
    have e : ∀ l, putsM f (y :: l) = bothW (f y) (putsM f l) := by
      intro l
      rw [putsM]
      cases f y with
      | error e => rfl
      | ok a => cases putsM f l <;> rfl
    rw [e, e, ih, bothW_assoc]
end Sb
namespace Go.Proofs.Sb
open Go.RowKit _root_.Sb
/-- what is put lies in two boxes -/
structure PO (ρ : Nat → Nat) (O E : Nat) (s : Wr) (acc : Nat) (w : World) : Prop where
  o : ∃ A n c bs, Bx (Rl ρ 2) w O [.slice A n c] ∧ OwnB (Rl ρ 4) w A n c bs ∧ ∀ cur, s = .ok cur → bs = cur ∧ cur.length ≤ acc
  e : Bx (Rl ρ 3) w E [.int .i64 (werr s)]
  ne : ∀ e, s = .error e → e ≠ 0
theorem PO.stepT {ρ ρ' : Nat → Nat} {O E acc t : Nat} {s : Wr} {w w' : World} {T : Nat → Prop} (h : PO ρ O E s acc w) (hf : Fr T w w') (hT : ∀ b, T b → ρ b ≠ 2 ∧ ρ b ≠ 3 ∧ ρ b ≠ 4) (hx : ρ' = xt ρ w.heap.size t) : PO ρ' O E s acc w' := by
  obtain ⟨⟨A, n, c, bs, h1, h2, h3⟩, h4, h5⟩ := h
  exact ⟨⟨A, n, c, bs, h1.stepT hf (fun b e ht => (hT b ht).1 e) hx, hx ▸ goesOwnB.stepT h2 hf (fun b e ht => (hT b ht).2.2 e) t, h3⟩, h4.stepT hf (fun b e ht => (hT b ht).2.1 e) hx, h5⟩
set_option maxHeartbeats 2000000 in
set_option maxRecDepth 100000 in
theorem tput1_any {S : Nat → Prop} {A : Option Addr} {m c O E acc acc' : Nat} {s r : Wr} {ρ : Nat → Nat} {w : World} (h : PO ρ O E s acc w) (hs : Sl S w A m c (wval r)) (hr : ∀ e, r = .error e → e ≠ 0) (hacc : acc + (wval r).length ≤ acc') (hl : acc' ≤ 140737488355328) :
    Calls Tryd.prog 32 #[.slice A m c, .int .i64 (werr r), .pointer (some ⟨E, 0, none⟩), .pointer (some ⟨O, 0, none⟩)] w fun e w' => e = .returned (.tuple #[]) ∧ ∃ ρ', ρ' = xt ρ w.heap.size 4 ∧ PO ρ' O E (bothW s r) acc' w' ∧ Fr (fun b => ρ b = 2 ∨ ρ b = 3 ∨ ρ b = 4) w w' := by
  have HPO := Lib.hid h
  have HS := Lib.hid hs; clear hs
  have HR := Lib.hid hr; clear hr
  obtain ⟨⟨A1, n1, c1, bs, h1, h2, h3⟩, h4, h5⟩ := h
  have e0 := h4.c 0 _ rfl
  have o0 := h1.c 0 _ rfl
  cases s with
  | error e =>
    have hne : e ≠ 0 := h5 e rfl
    have hne2 : (e == 0) = false := by simpa using hne
    simp only [werr_error] at e0
    clear h1 h2 h3 h4 h5 o0
    go_enter Tryd.func32, Tryd.ntmps32
    go_wp2_with fail
    refine bodyPost_end (results_none rfl _ _ _) rfl ?_
    refine ⟨rfl, _, rfl, ?_, .refl _ _⟩
    have hp := HPO.out.stepT (T := fun _ => False) (ρ' := xt ρ w.heap.size 4) (.refl _ w) (fun b hb => hb.elim) rfl
    obtain ⟨⟨B1, k1, d1, cs, g1, g2, g3⟩, g4, g5⟩ := hp
    exact ⟨⟨B1, k1, d1, cs, g1, g2, fun cur hc => by cases hc⟩, g4, g5⟩
  | ok cur =>
    simp only [werr_ok] at e0
    obtain ⟨rfl, hcl⟩ := h3 cur rfl
    have ke := h4.fr 0
    have ko := h1.fr 0
    have le := h4.lt
    have lo := h1.lt
    have hOE : ¬ O = E := fun e => by have a := h1.role; have b := h4.role; rw [e] at a; have := a.symm.trans b; omega
    have hEO : ¬ E = O := fun e => hOE e.symm
    have H1 := Lib.hid h1
    have H2 := Lib.hid h2
    have H4 := Lib.hid h4
    clear h1 h2 h3 h4 h5
    go_enter Tryd.func32, Tryd.ntmps32
    go_wp2_with (first | (at_builtin; go_loud (refine wpList_appXB rfl _ _ rfl (ρ := ρ) (r := 4) _ _ _ bs rfl H2.out _ _ _ _ (wval r) rfl HS.out (by omega) ?_); intro A3 n3 c3 w3 ρ3 hx3 hown3 hf3; have g1 := H1.out.stepx hf3 hx3; have g4 := H4.out.stepx hf3 hx3; have e3 := g4.c 0 _ rfl; have o3 := g1.c 0 _ rfl; have ke3 := g4.fr 0; have ko3 := g1.fr 0; have le3 := g4.lt; have lo3 := g1.lt))
    have f1 := g1.frPut 0 (.slice A3 n3 c3)
    have g1b := g1.put 0 (.slice A3 n3 c3) (by simp)
    have g4b := g4.stay f1
    have own4 := goesOwnB.stay hown3 f1 (by decide)
    have f2 := g4b.frPut 0 (.int .i64 (werr r))
    have g4c := g4b.put 0 (.int .i64 (werr r)) (by simp)
    have g1c := g1b.stay f2
    have own5 := goesOwnB.stay own4 f2 (by decide)
    refine bodyPost_end (results_none rfl _ _ _) rfl ?_
    refine ⟨rfl, ρ3, hx3, ⟨⟨A3, n3, c3, _, g1c, own5, ?_⟩, ?_, ?_⟩, ?_⟩
    · intro cur2 hc
      cases r with
      | error e => cases hc
      | ok y =>
        injection hc with hc
        subst hc
        exact ⟨rfl, by rw [List.length_append]; simp only [wval] at hacc; omega⟩
    · have : werr (bothW (.ok bs) r) = werr r := by cases r <;> rfl
      rw [this]
      exact g4c
    · intro e he
      cases r with
      | error e2 => injection he with he; subst he; exact HR.out e2 rfl
      | ok y => cases he
    · have hρ : ∀ b, b < w.heap.size → ρ3 b = ρ b := fun b hb => by rw [hx3, xt_lt hb]
      refine ((hf3.imp fun b _ e => .inr (.inr e)).seq (f1.imp (S' := fun b => ρ3 b = 2 ∨ ρ3 b = 3) fun b _ e => .inl e) ?_).seq (f2.imp (S' := fun b => ρ3 b = 2 ∨ ρ3 b = 3) fun b _ e => .inr e) ?_
      · intro b hb e; rw [hρ b hb] at e; rcases e with e | e; exact .inl e; exact .inr (.inl e)
      · intro b hb e; rw [hρ b hb] at e; rcases e with e | e; exact .inl e; exact .inr (.inl e)
/-- along the walk of Put -/
structure WI (w : World) (T O E : Nat) (vs : List Value) (s : Wr) (acc : Nat) (ρ : Nat → Nat) (wx : World) : Prop where
  bs : Bs ρ (fun _ => False) w wx
  t : Bx (Rl ρ 1) wx T vs
  po : PO ρ O E s acc wx
section
variable {w wx w' : World} {T O E acc acc' : Nat} {vs : List Value} {s s' : Wr} {ρ ρ' : Nat → Nat}
theorem WI.belowE (h : WI w T O E vs s acc ρ wx) (hb : Below wx.heap.size wx w') (t : Nat) : ∃ ρ', ρ' = xt ρ wx.heap.size t ∧ WI w T O E vs s acc ρ' w' :=
  ⟨_, rfl, h.bs.step (r := 10) (.of_below hb) (by decide) t, h.t.stepT (T := fun _ => False) (.of_below hb) (fun b _ h => h) rfl, h.po.stepT (T := fun _ => False) (.of_below hb) (fun b h => h.elim) rfl⟩
theorem WI.put (h : WI w T O E vs s acc ρ wx) (hf : Fr (fun b => ρ b = 2 ∨ ρ b = 3 ∨ ρ b = 4) wx w') (hx : ρ' = xt ρ wx.heap.size 4) (hp : PO ρ' O E s' acc' w') : WI w T O E vs s' acc' ρ' w' :=
  ⟨⟨fun b hb _ => by rw [hx, xt_lt (by have := h.bs.size; omega)]; exact h.bs.role b hb (fun h => h), h.bs.fr.seq hf fun b hb e => by have := h.bs.role b hb (fun h => h); rcases e with e | e | e <;> omega⟩, h.t.stepT hf (fun b hb e => by have hb : ρ b = 1 := hb; rcases e with e | e | e <;> omega) hx, hp⟩
/-- a box of its own, behind the closure -/
theorem Bx.put8 {C : Nat} {us : List Value} (h : Bx (Rl ρ 8) wx C us) (hf : Fr (fun b => ρ b = 2 ∨ ρ b = 3 ∨ ρ b = 4) wx w') (hx : ρ' = xt ρ wx.heap.size 4) : Bx (Rl ρ' 8) w' C us :=
  h.stepT hf (fun b hb e => by have hb : ρ b = 8 := hb; rcases e with e | e | e <;> omega) hx
theorem WI.below (h : WI w T O E vs s acc ρ wx) : Below w.heap.size w wx := h.bs.below
theorem PO.mono (h : PO ρ O E s acc wx) (ha : acc ≤ acc') : PO ρ O E s acc' wx := by
  obtain ⟨⟨A, n, c, bs, h1, h2, h3⟩, h4, h5⟩ := h
  exact ⟨⟨A, n, c, bs, h1, h2, fun cur hc => ⟨(h3 cur hc).1, Nat.le_trans (h3 cur hc).2 ha⟩⟩, h4, h5⟩
theorem WI.mono (h : WI w T O E vs s acc ρ wx) (ha : acc ≤ acc') : WI w T O E vs s acc' ρ wx := ⟨h.bs, h.t, h.po.mono ha⟩
theorem WI.as (h : WI w T O E vs s acc ρ wx) (hs : s = s') : WI w T O E vs s' acc ρ wx := hs ▸ h
end
end Go.Proofs.Sb

/- Walk over rows.Put. Conditions: what is put is at most 2^47 bytes. (written by gen_tar.py) -/
namespace Sb
def colWt (D : Nat) (c : Col) : Nat := c.space.length + c.table.length + c.name.length + 6 + 200000 * nD D c.type
def rowWt (l : List Val) : Nat := (l.map fun v => v.bytes.length + 4).sum
/-- a table's weight: its bytes, put, are no more -/
def wtT (D : Nat) (t : Tb) : Nat := 16 + t.state.bytes.length + (t.cols.map (colWt D)).sum + (t.rows.map rowWt).sum
theorem text_le (s : B) : (wval (text s)).length ≤ s.length + 2 := by
  unfold text
  split
  · simp [wval]
  · simp [wval, enc_length]; omega
theorem value_le (v : Val) : (wval (value v)).length ≤ v.bytes.length + 4 := by
  unfold value
  split
  · simp [wval]
  · split
    · simp [wval]
    · split
      · simp only [wval, long, List.length_append, enc_length]; omega
      · simp [wval]
theorem putW_le (D : Nat) (o : Opt) : (wval (putW D o)).length ≤ 200000 * nD D o := by
  unfold putW
  split
  · simp [wval]
  · cases h : putD D o with
    | error e => simp [wval]
    | ok b => exact putD_len h
/-- what is put of columns up to k -/
def colSt (D : Nat) (g : Bool) (cs : List Col) (k : Nat) : Wr := if k = 0 then .ok [] else bothW (allW g cs) (putsM (colW D g) (cs.take k))
theorem colSt_step {D : Nat} {g : Bool} {cs : List Col} {k : Nat} {x : Col} (h : cs[k]? = some x) : colSt D g cs (k + 1) = bothW (bothW (bothW (colSt D g cs k) (if (!g || decide (k = 0)) then nmsW x else .ok [])) (text x.name)) (putW D x.type) := by
  unfold colSt
  rw [if_neg (by omega), putsM_snocT _ h]
  cases k with
  | zero =>
    cases cs with
    | nil => cases h
    | cons y l =>
      injection h with h
      subst h
      rw [if_pos rfl, List.take_zero, bothW_okN]
      show bothW (if g then nmsW y else .ok []) (bothW (.ok []) (bothW (if g then .ok [] else nmsW y) (bothW (text y.name) (putW D y.type)))) = _
      rw [bothW_okN]
      cases g <;> simp [bothW_okN, bothW_assoc]
  | succ k =>
    rw [if_neg (by omega), show decide (k + 1 = 0) = false from rfl, Bool.or_false]
    show bothW (allW g cs) (bothW _ (bothW (if g then .ok [] else nmsW x) (bothW (text x.name) (putW D x.type)))) = _
    cases g <;> simp [bothW_okN, bothW_assoc, bothW_nilT]
theorem colSt_all (D : Nat) (g : Bool) (cs : List Col) : colSt D g cs cs.length = bothW (allW g cs) (putsM (colW D g) cs) := by
  unfold colSt
  cases cs with
  | nil => rfl
  | cons c l => rw [if_neg (by simp), List.take_length]
theorem sum_takeG {α : Type} (g : α → Nat) {l : List α} {k : Nat} {x : α} (h : l[k]? = some x) : ((l.take (k + 1)).map g).sum = ((l.take k).map g).sum + g x := by
  obtain ⟨hk, rfl⟩ := List.getElem?_eq_some_iff.1 h
  rw [List.take_succ_eq_append_getElem hk, List.map_append, List.sum_append]
  simp
theorem sum_take_leG {α : Type} (g : α → Nat) (l : List α) (k : Nat) : ((l.take k).map g).sum ≤ (l.map g).sum := by
  have h := congrArg (fun l : List α => (l.map g).sum) (List.take_append_drop k l)
  simp only [List.map_append, List.sum_append] at h
  omega
theorem sum_memG {α : Type} (g : α → Nat) {l : List α} {x : α} (h : x ∈ l) : g x ≤ (l.map g).sum := by
  obtain ⟨a, b, rfl⟩ := List.append_of_mem h
  simp only [List.map_append, List.map_cons, List.sum_append, List.sum_cons]
  omega
theorem putW_nz {D : Nat} {o : Opt} {e : Int} (h : putW D o = .error e) : e ≠ 0 := by
  unfold putW at h
  split at h
  · injection h with h; omega
  · exact putD_ne h
/-- the flags, bit by bit -/
def flS (a b c : Bool) (k : Nat) : Nat := (if 0 < k then a.toNat else 0) + (if 1 < k then 2 * b.toNat else 0) + (if 2 < k then 4 * c.toNat else 0)
theorem colSt_t {D : Nat} {g : Bool} {cs : List Col} {k : Nat} {x : Col} (hn : (!g || decide (k = 0)) = true) (s : Wr) (h : cs[k]? = some x) : bothW s (colSt D g cs (k + 1)) = bothW (bothW (bothW (bothW (bothW s (colSt D g cs k)) (text x.space)) (text x.table)) (text x.name)) (putW D x.type) := by
  rw [colSt_step h, hn]
  simp only [if_true, nmsW, bothW_assoc]
theorem colSt_f {D : Nat} {g : Bool} {cs : List Col} {k : Nat} {x : Col} (hn : (!g || decide (k = 0)) = false) (s : Wr) (h : cs[k]? = some x) : bothW s (colSt D g cs (k + 1)) = bothW (bothW (bothW s (colSt D g cs k)) (text x.name)) (putW D x.type) := by
  rw [colSt_step h, hn]
  simp only [Bool.false_eq_true, if_false, bothW_assoc, bothW_nilT]
theorem putT_eq {D : Nat} {t : Tb} {one : Bool} : putT D t one = bothW (bothW (bothW (bothW (bothW (bothW (.ok []) (.ok (enc 4 (putF t one)))) (.ok (enc 4 t.count.toNat))) (if t.more then value t.state else .ok [])) (colSt D (oneT t one) t.cols t.cols.length)) (.ok (enc 4 t.rows.length))) (putsM (putsM value) t.rows) := by
  rw [colSt_all]
  unfold putT
  rw [bothW_okN]
  simp only [bothW_assoc]
end Sb
namespace Go.Proofs.Sb
open Go.RowKit _root_.Sb
theorem wrap_u64 {x : Nat} (h : x < 18446744073709551616) : IntKind.u64.wrap (x : Int) = (x : Int) := by
  have h1 : (x : Int) % 18446744073709551616 = x := by omega
  first | exact h1 | (simp [IntKind.wrap]; exact h1)
/-- what is read of an argument, behind the closure -/
theorem OptR.fr234 {S : Nat → Prop} {w wx w' : World} {T O E acc M dp : Nat} {vs : List Value} {s : Wr} {ρ : Nat → Nat} {A1 : Option Addr} {n1 c1 : Nat} {A2 : Option Addr} {n2 c2 : Nat} {o : Opt} (h : OptR (fun b => S b ∧ b < w.heap.size) wx M dp A1 n1 c1 A2 n2 c2 o) (hI : WI w T O E vs s acc ρ wx) (hf : Fr (fun b => ρ b = 2 ∨ ρ b = 3 ∨ ρ b = 4) wx w') : OptR (fun b => S b ∧ b < w.heap.size) w' M dp A1 n1 c1 A2 n2 c2 o :=
  goesOptR.keep h hf.size fun b hs hb => hf.block b hb fun e => by have := hI.bs.role b hs.2 (fun h => h); rcases e with e | e | e <;> omega
theorem WI.start {w w3 : World} {vs : List Value} {O E : Nat} (hb : Below w.heap.size w w3) (hT : Bx (fun b => b = w.heap.size) w3 w.heap.size vs) (hO : Bx (fun b => b = O) w3 O [.slice none 0 0]) (hE : Bx (fun b => b = E) w3 E [.int .i64 0]) (h1 : w.heap.size < O) (h2 : E = O + 1) : ∃ ρ, WI w w.heap.size O E vs (.ok []) 0 ρ w3 := by
  refine ⟨fun b => if b < w.heap.size then 0 else if b = w.heap.size then 1 else if b = O then 2 else if b = E then 3 else 6, ⟨fun b h _ => if_pos h, .of_below hb⟩, hT.mono ?_, ⟨none, 0, 0, [], hO.mono ?_, OwnB.nil, fun cur h => by injection h with h; subst h; exact ⟨rfl, Nat.zero_le _⟩⟩, hE.mono ?_, fun e h => by cases h⟩
  · rintro b rfl _
    show (if w.heap.size < w.heap.size then 0 else if w.heap.size = w.heap.size then 1 else if w.heap.size = O then 2 else if w.heap.size = E then 3 else 6) = 1
    rw [if_neg (by omega), if_pos rfl]
  · rintro b rfl _
    show (if b < w.heap.size then 0 else if b = w.heap.size then 1 else if b = b then 2 else if b = E then 3 else 6) = 2
    rw [if_neg (by omega), if_neg (by omega), if_pos rfl]
  · rintro b rfl _
    show (if b < w.heap.size then 0 else if b = w.heap.size then 1 else if b = O then 2 else if b = b then 3 else 6) = 3
    rw [if_neg (by omega), if_neg (by omega), if_neg (by omega), if_pos rfl]
set_option maxHeartbeats 16000000 in
set_option maxRecDepth 100000 in
theorem tPut_any {S : Nat → Prop} {M dp : Nat} {w : World} {c d q : Pl3} {t : Tb} {one : Bool} (ht : TbR M dp S w c d q t) (hM : M ≤ 9223372036854775807) (hpl : Pl w) (hwt : wtT (dp + 1) t ≤ 140737488355328) (hnd : ∀ x ∈ t.cols, nD (dp + 1) x.type ≤ 1000000) :
    Calls Tryd.prog 17 #[.agg (tabV t c d q).toArray, .bool one] w fun e w' => ∃ A n k, e = .returned (.tuple #[.slice A n k, .int .i64 (werr (putTb (dp + 1) t one))]) ∧ Own w.heap.size w' A n k (wval (putTb (dp + 1) t one)) ∧ Below w.heap.size w w' := by
  have HT := Lib.hid (ht.mono (S' := fun b => S b ∧ b < w.heap.size) fun b h1 h2 => ⟨h1, h2⟩)
  have HCL := Lib.hid ht.cl.len
  have HRL := Lib.hid ht.rw.len
  have hccap := ht.cl.cap
  have hrcap := ht.rw.cap
  have hccm := ht.cl.capMax
  have hrcm := ht.rw.capMax
  have HSL := Lib.hid ht.st.len
  clear ht
  have HPL := Lib.hid hpl; clear hpl
  have HND := Lib.hid hnd; clear hnd
  have HFT := Lib.hid (fun h : fitsT t one = true => (by
    unfold fitsT at h
    simp only [Bool.and_eq_true] at h
    exact of_decide_eq_true h.1 : 0 ≤ t.count ∧ t.count ≤ 4096 ∧ t.rows.length ≤ 4096 ∧ (t.cols.length = 0 ∨ (t.cols.length : Int) = t.count)))
  obtain ⟨r0, hr0⟩ : ∃ r0, r0 = putTb (dp + 1) t one := ⟨_, rfl⟩
  have HR0 := Lib.hid hr0
  rw [← hr0]
  clear hr0
  have hwt2 := hwt
  unfold wtT at hwt2
  obtain ⟨CW, hCW⟩ : ∃ CW, CW = (t.cols.map (colWt (dp + 1))).sum := ⟨_, rfl⟩
  obtain ⟨RW, hRW⟩ : ∃ RW, RW = (t.rows.map rowWt).sum := ⟨_, rfl⟩
  rw [← hCW, ← hRW] at hwt2
  have HCW := Lib.hid hCW; clear hCW
  have HRW := Lib.hid hRW; clear hRW
  clear hwt
  obtain ⟨ft, hft⟩ : ∃ ft, fitsT t one = ft := ⟨_, rfl⟩
  have HF := Lib.hid hft; clear hft
  have HT1 : Bx (fun b => b = w.heap.size) (w.alloc (.cells (tabV t c d q).toArray 29)) w.heap.size (tabV t c d q) := Bx.alloc w (tabV t c d q).toArray 29 (S := fun b => b = w.heap.size) rfl rfl
  go_enter Tryd.func17, Tryd.ntmps17
  go_wp2_with (first | (refine wpList_loadB HT1 (by rfl) 29 _ (by rfl) (by rfl) _ Tryd.underlying29 rfl (by kernel_rfl) ?_))
  refine (tfits_any (goesTb.after HT.out (by repeat (first | exact Below.refl _ _ | assumption | refine Below.drew ?_ | refine below_drewN ?_ _ | refine Below.alloc ?_ (by first | (simp; done) | omega | (simp; omega)) _ | refine Below.setCell ?_ (by first | (simp; done) | omega | (simp; omega)) _)))).mono ?_
  rintro e w2 ⟨rfl, hb2⟩
  rw [HF.out]
  have hT2 := HT1.after hb2
  have hB2 : Below w.heap.size w w2 := Below.trans (by repeat (first | exact Below.refl _ _ | assumption | refine Below.drew ?_ | refine below_drewN ?_ _ | refine Below.alloc ?_ (by first | (simp; done) | omega | (simp; omega)) _ | refine Below.setCell ?_ (by first | (simp; done) | omega | (simp; omega)) _)) (hb2.mono (by simp))
  have hz2 := hT2.lt
  have HT2 := Lib.hid hT2
  have HB2 := Lib.hid hB2
  clear hT2 hB2 hb2 HT1
  cases ft with
  | false =>
    go_wp2_with fail
    go_ret2
    have h1 : r0 = .error 1 := by rw [HR0.out]; unfold putTb; rw [if_pos HF.out]
    subst h1
    exact ⟨none, 0, 0, rfl, Own.nil, HB2.out⟩
  | true =>
    obtain ⟨hc0, hc1, hr1, hcc⟩ := HFT.out HF.out
    obtain ⟨m, hm⟩ : ∃ m : Nat, t.count = (m : Int) := ⟨t.count.toNat, by omega⟩
    have hcl4 : c.2.1 ≤ 4096 := by have := HCL.out; omega
    have hrl4 : q.2.1 ≤ 4096 := by have := HRL.out; omega
    have HR1 : Hid (r0 = putT (dp + 1) t one) := by
      rw [HR0.out]
      unfold putTb
      rw [if_neg (by rw [HF.out]; decide)]
      exact Lib.hid rfl
    clear HR0 HFT
    go_upto_region 5 with fail
    have i3 := WI.start (w := w) (w3 := (w2.alloc (.cells #[.slice none 0 0] 22)).alloc (.cells #[.int .i64 0] 30)) (O := w2.heap.size) (E := w2.heap.size + 1) (HB2.out.trans (by have := HB2.out.size; exact (by repeat (first | exact Below.refl _ _ | assumption | refine Below.drew ?_ | refine below_drewN ?_ _ | refine Below.alloc ?_ (by first | (simp; done) | omega | (simp; omega)) _ | refine Below.setCell ?_ (by first | (simp; done) | omega | (simp; omega)) _)))) (HT2.out.after (by repeat (first | exact Below.refl _ _ | assumption | refine Below.drew ?_ | refine below_drewN ?_ _ | refine Below.alloc ?_ (by first | (simp; done) | omega | (simp; omega)) _ | refine Below.setCell ?_ (by first | (simp; done) | omega | (simp; omega)) _))) ((Bx.alloc w2 #[.slice none 0 0] 22 (S := fun b => b = w2.heap.size) rfl rfl).after (by repeat (first | exact Below.refl _ _ | assumption | refine Below.drew ?_ | refine below_drewN ?_ _ | refine Below.alloc ?_ (by first | (simp; done) | omega | (simp; omega)) _ | refine Below.setCell ?_ (by first | (simp; done) | omega | (simp; omega)) _))) (Bx.alloc _ #[.int .i64 0] 30 (S := fun b => b = w2.heap.size + 1) (by simp) (by simp)) hz2 rfl
    obtain ⟨ρ3, i3⟩ := i3
    obtain ⟨w3, hw3⟩ : ∃ w3, w3 = (w2.alloc (.cells #[.slice none 0 0] 22)).alloc (.cells #[.int .i64 0] 30) := ⟨_, rfl⟩
    have hlO : w2.heap.size < w3.heap.size := by rw [hw3]; simp; omega
    have hlE : w2.heap.size + 1 < w3.heap.size := by rw [hw3]; simp
    rw [← hw3] at i3 ⊢
    obtain ⟨O, hO⟩ : ∃ O, O = w2.heap.size := ⟨_, rfl⟩
    rw [← hO] at i3 hlO hlE ⊢
    obtain ⟨E, hE⟩ : ∃ E, E = O + 1 := ⟨_, rfl⟩
    rw [← hE] at i3 hlE ⊢
    have I3 := Lib.hid i3
    have hwO : w.heap.size < O := by omega
    clear i3 hw3 hO hE HT2 HB2 hz2 hlO hlE
    obtain ⟨g, hg⟩ : ∃ g, g = oneT t one := ⟨_, rfl⟩
    have HG := Lib.hid hg; clear hg
    have t1 := I3.out.t.c 1 _ rfl
    have tl3 := I3.out.t.lt
    have el3 := I3.out.po.e.lt
    go_upto_region 7 with fail
    go_cut [1] (fun v wx => v = .bool g ∧ wx = w3)
    case first =>
      cases one with
      | false =>
        go_wp2_with fail
        go_meet
        exact ⟨by rw [HG.out]; rfl, rfl⟩
      | true =>
        have hgk : g = decide (0 < c.2.1) := by
          rw [HG.out, HCL.out]
          rfl
        have HGK := Lib.hid hgk; clear hgk
        go_wp2_with fail
        go_meet
        exact ⟨by rw [HGK.out], rfl⟩
    case rest =>
      obtain ⟨rfl, rfl⟩ := hcut
      obtain ⟨w3, hwo⟩ : ∃ wo, wo = wc := ⟨_, rfl⟩
      subst hwo
      clear t1 tl3 el3
      obtain ⟨mo, hmo⟩ : ∃ mo, mo = t.more := ⟨_, rfl⟩
      obtain ⟨lt, hlt⟩ : ∃ lt, lt = decide (c.2.1 < m) := ⟨_, rfl⟩
      have HMO := Lib.hid hmo
      have HLT := Lib.hid hlt
      have hltf : decide (c.2.1 < m) = lt := hlt.symm
      have HMM := Lib.hid hm
      have t0 := I3.out.t.c 0 _ rfl
      have t1 := I3.out.t.c 1 _ rfl
      have t2 : w3.cell? ⟨w.heap.size, 2, none⟩ = some (.bool mo) := hmo ▸ I3.out.t.c 2 _ rfl
      clear hmo hlt
      have HFL : Hid (putF t one = flS g mo lt 3) := by
        have e : lt = decide ((t.cols.length : Int) < t.count) := by rw [HLT.out, HCL.out, hm]; simp
        rw [HMO.out, HG.out, e]
        exact Lib.hid rfl
      have tl3 := I3.out.t.lt
      have el3 := I3.out.po.e.lt
      go_upto_block 0 with fail
      go_cut [9, 10, 11] (fun v _ _ wx => v = .int .i64 ((flS g mo lt 3 : Nat) : Int) ∧ ∃ ρ, Hid (WI w w.heap.size O E (tabV t c d q) (.ok []) 0 ρ wx))
      case first =>
        have HAL := Lib.hid (I3.out.belowE (w' := w3.alloc (.cells #[.bool g, .bool mo, .bool lt] 4)) ((Below.refl _ _).alloc (Nat.le_refl _) _) 6)
        go_wp2_with fail
        go_loopw [9, 10, 11, 41] (fun v _ _ i wr => ∃ k : Nat, k ≤ 3 ∧ i = .int .i64 (k : Int) ∧ v = .int .i64 ((flS g mo lt k : Nat) : Int) ∧ wr = w3.alloc (.cells #[.bool g, .bool mo, .bool lt] 4)) (fun _ _ _ i _ => 3 - (intOf i).toNat)
        case atStart => exact ⟨0, by omega, rfl, rfl, rfl⟩
        case round =>
          obtain ⟨k, hk, rfl, rfl, rfl⟩ := hrel
          have hk4 : k = 0 ∨ k = 1 ∨ k = 2 ∨ k = 3 := by omega
          rcases hk4 with rfl | rfl | rfl | rfl
          · cases g with
            | true =>
              go_wp2_with fail
              exact ⟨⟨1, by omega, by first | rfl | go_num, by cases mo <;> cases lt <;> rfl, trivial⟩, by simp [intOf]⟩
            | false =>
              go_wp2_with fail
              exact ⟨⟨1, by omega, by first | rfl | go_num, by cases mo <;> cases lt <;> rfl, trivial⟩, by simp [intOf]⟩
          · cases mo with
            | true =>
              go_wp2_with fail
              exact ⟨⟨2, by omega, by first | rfl | go_num, by cases g <;> cases lt <;> rfl, trivial⟩, by simp [intOf]⟩
            | false =>
              go_wp2_with fail
              exact ⟨⟨2, by omega, by first | rfl | go_num, by cases g <;> cases lt <;> rfl, trivial⟩, by simp [intOf]⟩
          · cases lt with
            | true =>
              go_wp2_with fail
              exact ⟨⟨3, by omega, by first | rfl | go_num, by cases g <;> cases mo <;> rfl, trivial⟩, by simp [intOf]⟩
            | false =>
              go_wp2_with fail
              exact ⟨⟨3, by omega, by first | rfl | go_num, by cases g <;> cases mo <;> rfl, trivial⟩, by simp [intOf]⟩
          · go_wp2_with fail
            go_meet
            obtain ⟨ρ4, _, i4⟩ := HAL.out
            exact ⟨rfl, ρ4, i4⟩
      case rest =>
        obtain ⟨rfl, ρ4, I4⟩ := hcut
        obtain ⟨w4, hwo⟩ : ∃ wo, wo = wc := ⟨_, rfl⟩
        subst hwo
        clear t0 t1 t2 tl3 el3 hltf I3
        obtain ⟨fl, hfl⟩ : ∃ fl, fl = flS g mo lt 3 := ⟨_, rfl⟩
        rw [← hfl] at HFL ⊢
        have hfl7 : fl ≤ 7 := by rw [hfl]; cases g <;> cases mo <;> cases lt <;> decide
        clear hfl
        have hwf : IntKind.u64.wrap (fl : Int) = (fl : Int) := wrap_u64 (by omega)
        have hwm : IntKind.u64.wrap (m : Int) = (m : Int) := wrap_u64 (by omega)
        have hwq : IntKind.u64.wrap (q.2.1 : Int) = (q.2.1 : Int) := wrap_u64 (by omega)
        have hlt' := HLT
        have tl4 := I4.out.t.lt
        have el4 := I4.out.po.e.lt
        have t0 := I4.out.t.c 0 _ rfl
        go_wp2_with fail
        refine (put_any (fl : Int) 4 w4 (by omega) (by omega) (by omega) (by omega)).mono ?_
        rw [Int.toNat_natCast]
        rintro e w5 ⟨A5, n5, c5, rfl, ho, hb⟩
        obtain ⟨ρ5, hx5, i5⟩ := I4.out.belowE hb 6
        have I5 := Lib.hid i5
        have HS5 := Lib.hid ho.slb
        clear hx5 i5 ho hb I4
        clear t0 tl4 el4
        have tl5 := I5.out.t.lt
        have el5 := I5.out.po.e.lt
        go_wp2_with fail
        refine (tput1_any (r := .ok (enc 4 fl)) (acc' := 4) I5.out.po HS5.out (by intro e h; cases h) (by simp [wval, enc_length]) (by omega)).mono ?_
        rintro e w6 ⟨rfl, ρ6, hx6, hp6, hf6⟩
        have I6 := Lib.hid (I5.out.put hf6 hx6 hp6)
        clear hx6 hp6 hf6 I5
        clear HS5 tl5 el5
        have tl6 := I6.out.t.lt
        have el6 := I6.out.po.e.lt
        have t0 := I6.out.t.c 0 _ rfl
        rw [HMM.out] at t0
        go_wp2_with fail
        refine (put_any (m : Int) 4 w6 (by omega) (by omega) (by omega) (by omega)).mono ?_
        rw [Int.toNat_natCast]
        rintro e w7 ⟨A5, n5, c5, rfl, ho, hb⟩
        obtain ⟨ρ7, hx7, i7⟩ := I6.out.belowE hb 6
        have I7 := Lib.hid i7
        have HS7 := Lib.hid ho.slb
        clear hx7 i7 ho hb I6
        clear t0 tl6 el6
        have tl7 := I7.out.t.lt
        have el7 := I7.out.po.e.lt
        go_wp2_with fail
        refine (tput1_any (r := .ok (enc 4 m)) (acc' := 8) I7.out.po HS7.out (by intro e h; cases h) (by simp [wval, enc_length]) (by omega)).mono ?_
        rintro e w8 ⟨rfl, ρ8, hx8, hp8, hf8⟩
        have I8 := Lib.hid (I7.out.put hf8 hx8 hp8)
        clear hx8 hp8 hf8 I7
        clear HS7 tl7 el7
        have tl8 := I8.out.t.lt
        have el8 := I8.out.po.e.lt
        obtain ⟨s2, hs2⟩ : ∃ s2, s2 = bothW (bothW (.ok []) (.ok (enc 4 fl))) (.ok (enc 4 m)) := ⟨_, rfl⟩
        rw [← hs2] at I8
        have HS2 := Lib.hid hs2; clear hs2
        have t2 : w8.cell? ⟨w.heap.size, 2, none⟩ = some (.bool mo) := HMO.out ▸ I8.out.t.c 2 _ rfl
        go_upto_if 64 with fail
        obtain ⟨s3, hs3⟩ : ∃ s3, s3 = bothW s2 (if mo then value t.state else .ok []) := ⟨_, rfl⟩
        have HS3 := Lib.hid hs3; clear hs3
        go_cut [] (fun wx => ∃ ρ, Hid (WI w w.heap.size O E (tabV t c d q) s3 (12 + t.state.bytes.length) ρ wx))
        case first =>
          cases mo with
          | false =>
            go_wp2_with fail
            go_meet
            have e3 : s3 = s2 := by rw [HS3.out]; exact bothW_nilT s2
            exact ⟨_, e3 ▸ I8.out.mono (by omega)⟩
          | true =>
            have t3 := I8.out.t.c 3 _ rfl
            have t4 := I8.out.t.c 4 _ rfl
            have hdl : d.2.1 ≤ 140737488355324 := by have := HSL.out; omega
            go_wp2_with fail
            refine (value_any (v := t.state) (goesTb.after HT.out I8.out.below).st hdl (value t.state) rfl).mono ?_
            rintro e w9 ⟨A5, n5, c5, rfl, ho, hb⟩
            obtain ⟨ρ9, hx9, i9⟩ := I8.out.belowE hb 6
            have I9 := Lib.hid i9
            have HS9 := Lib.hid ho.slb
            clear hx9 i9 ho hb I8
            clear t2 t3 t4 tl8 el8
            have tl9 := I9.out.t.lt
            have el9 := I9.out.po.e.lt
            go_wp2_with fail
            refine (tput1_any (r := value t.state) (acc' := 12 + t.state.bytes.length) I9.out.po HS9.out (by intro e h; exact value_ne h) (by have := value_le t.state; omega) (by omega)).mono ?_
            rintro e w10 ⟨rfl, ρ10, hx10, hp10, hf10⟩
            have I10 := Lib.hid (I9.out.put hf10 hx10 hp10)
            clear hx10 hp10 hf10 I9
            rw [show bothW s2 (value t.state) = s3 from by rw [HS3.out]; rfl] at I10
            go_wp2_with fail
            go_meet
            exact ⟨_, I10⟩
        case rest =>
          obtain ⟨ρ9, I9⟩ := hcut
          obtain ⟨w9, hwo⟩ : ∃ wo, wo = wc := ⟨_, rfl⟩
          subst hwo
          clear t2 tl8 el8 I8
          have tl9 := I9.out.t.lt
          have el9 := I9.out.po.e.lt
          have t1 := I9.out.t.c 1 _ rfl
          have hA1 : 12 + t.state.bytes.length + CW + RW + 4 ≤ 140737488355328 := by omega
          obtain ⟨s5, hs5⟩ : ∃ s5, s5 = bothW s3 (colSt (dp + 1) g t.cols t.cols.length) := ⟨_, rfl⟩
          have HS5 := Lib.hid hs5
          clear hs5
          go_upto_block 2 with fail
          go_cut [12, 13] (fun _ _ wx => ∃ ρ, Hid (WI w w.heap.size O E (tabV t c d q) s5 (12 + t.state.bytes.length + CW) ρ wx))
          case first =>
            go_wp2_with fail
            cases g with
            | false =>
              go_loopw [12, 13, 75] (fun _ _ i wr => ∃ ρ k, k ≤ c.2.1 ∧ i = .int .i64 (k : Nat) ∧ Hid (WI w w.heap.size O E (tabV t c d q) (bothW s3 (colSt (dp + 1) false t.cols k)) (12 + t.state.bytes.length + ((t.cols.take k).map (colWt (dp + 1))).sum) ρ wr)) (fun _ _ i _ => c.2.1 - (intOf i).toNat)
              case atStart => exact ⟨_, 0, by omega, rfl, (I9.out.as (bothW_nilT s3).symm).mono (by omega)⟩
              case round =>
                clear t1 tl9 el9 I9
                obtain ⟨ρ, k, hk, rfl, I10⟩ := hrel
                have tl10 := I10.out.t.lt
                have el10 := I10.out.po.e.lt
                by_cases hlt2 : k < c.2.1
                · obtain ⟨x, hx⟩ : ∃ x, t.cols[k]? = some x := ⟨_, List.getElem?_eq_getElem (by have := HCL.out; omega)⟩
                  have HTK := Lib.hid (goesTb.after HT.out I10.out.below)
                  have hac := HTK.out.cl.at (by decide) (by omega)
                  obtain ⟨b, off, hbo, hSb, hbs, HC⟩ := hac
                  obtain ⟨v, hv1, hp, hv2⟩ := HC k x hx
                  obtain ⟨A1, n1, k1, A2, n2, k2, rfl, hx1, hx2, hx3, hxo⟩ := hp
                  have hc0 := hv2 0 _ rfl
                  have hc1 := hv2 1 _ rfl
                  have hc2 := hv2 2 _ rfl
                  have hc3 := hv2 3 _ rfl
                  have hc4 := hv2 4 _ rfl
                  have hc5 := hv2 5 _ rfl
                  have hc6 := hv2 6 _ rfl
                  have hc7 := hv2 7 _ rfl
                  simp only [Nat.add_zero] at hc0
                  have HO := Lib.hid hxo
                  clear hv1 hv2 HC hxo hSb
                  have HMEM : Hid (x ∈ t.cols) := List.mem_of_getElem? hx
                  obtain ⟨ak, hak⟩ : ∃ ak, ak = 12 + t.state.bytes.length + ((t.cols.take k).map (colWt (dp + 1))).sum := ⟨_, rfl⟩
                  have hak1 : ak + colWt (dp + 1) x = 12 + t.state.bytes.length + ((t.cols.take (k + 1)).map (colWt (dp + 1))).sum := by rw [hak, sum_takeG _ hx]; omega
                  have hak2 : ak + colWt (dp + 1) x ≤ 140737488355328 := by
                    rw [hak1]
                    have := sum_take_leG (colWt (dp + 1)) t.cols (k + 1)
                    have := HCW.out
                    omega
                  have HAK1 := Lib.hid hak1
                  unfold colWt at hak2
                  rw [← hak] at I10
                  clear hak hak1
                  have HX := Lib.hid hx; clear hx
                  obtain ⟨sk, hsk⟩ : ∃ sk, sk = bothW s3 (colSt (dp + 1) false t.cols k) := ⟨_, rfl⟩
                  rw [← hsk] at I10
                  have HSK := Lib.hid hsk; clear hsk
                  go_upto_region 21 with (first | (refine wpList_store_newB (by rfl) 64 _ _ (by rfl) _ _ _ _ (by rfl) (by rfl) (by simp) (by rfl) (by kernel_rfl) (by rfl) (by rfl) ?_; intro w11 hb11 hz11 hx11))
                  obtain ⟨ρ11, hr11, i11⟩ := I10.out.belowE hb11 8
                  have HC11 : Hid (Bx (Rl ρ11 8) w11 wr.heap.size [.string (str x.space), .string (str x.table), .string (str x.name), .int .u16 (x.type.id : Int), .string (str x.type.space), .string (str x.type.name), .slice A1 n1 k1, .slice A2 n2 k2]) := hx11.mono fun b hb _ => by rw [hr11]; exact xt_ge (Nat.le_of_eq hb.symm)
                  have I11 := Lib.hid i11
                  have HOW : Hid (Below wr.heap.size wr w11) := hb11
                  clear i11 hb11 hx11 hr11 hc0 hc1 hc2 hc3 hc4 hc5 hc6 hc7 tl10 el10 hz11 hbo hbs
                  have HOO := Lib.hid (HO.out.after HOW.out)
                  have HPK := Lib.hid (HPL.out.after I11.out.below)
                  clear HO HTK I10 HOW
                  have HO11 := HOO
                  clear HOO
                  have tl11 := I11.out.t.lt
                  have el11 := I11.out.po.e.lt
                  have vc := HC11.out.c 0 _ rfl
                  go_wp2_with fail
                  refine (text_any x.space w11 (by omega) (text x.space) rfl).mono ?_
                  rintro e w12 ⟨A5, n5, c5, rfl, ho, hb⟩
                  have HO12 := Lib.hid (HO11.out.after hb)
                  clear HO11
                  obtain ⟨ρ12, hx12, i12⟩ := I11.out.belowE hb 6
                  have HC12 := Lib.hid (HC11.out.stepT (T := fun _ => False) (.of_below hb) (fun b _ h => h) hx12)
                  clear HC11
                  have I12 := Lib.hid i12
                  have HS12 := Lib.hid ho.slb
                  clear hx12 i12 ho hb I11
                  clear vc tl11 el11
                  have tl12 := I12.out.t.lt
                  have el12 := I12.out.po.e.lt
                  go_wp2_with fail
                  have hb8 := (Fr.refl (fun _ => False) w12)
                  refine (tput1_any (r := text x.space) (acc' := ak + (x.space.length + 2)) I12.out.po HS12.out (by intro e h; exact text_ne h) (by have := text_le x.space; omega) (by omega)).mono ?_
                  rintro e w13 ⟨rfl, ρ13, hx13, hp13, hf13⟩
                  have HC13 := Lib.hid (HC12.out.put8 hf13 hx13)
                  have HO13 := Lib.hid (HO12.out.fr234 I12.out hf13)
                  have I13 := Lib.hid (I12.out.put hf13 hx13 hp13)
                  clear hx13 hp13 hf13 I12 HC12 HO12 HS12 tl12 el12 hb8
                  have tl13 := I13.out.t.lt
                  have el13 := I13.out.po.e.lt
                  have vc := HC13.out.c 1 _ rfl
                  go_wp2_with fail
                  refine (text_any x.table w13 (by omega) (text x.table) rfl).mono ?_
                  rintro e w14 ⟨A5, n5, c5, rfl, ho, hb⟩
                  have HO14 := Lib.hid (HO13.out.after hb)
                  clear HO13
                  obtain ⟨ρ14, hx14, i14⟩ := I13.out.belowE hb 6
                  have HC14 := Lib.hid (HC13.out.stepT (T := fun _ => False) (.of_below hb) (fun b _ h => h) hx14)
                  clear HC13
                  have I14 := Lib.hid i14
                  have HS14 := Lib.hid ho.slb
                  clear hx14 i14 ho hb I13
                  clear vc tl13 el13
                  have tl14 := I14.out.t.lt
                  have el14 := I14.out.po.e.lt
                  go_wp2_with fail
                  have hb8 := (Fr.refl (fun _ => False) w14)
                  refine (tput1_any (r := text x.table) (acc' := ak + (x.space.length + 2) + (x.table.length + 2)) I14.out.po HS14.out (by intro e h; exact text_ne h) (by have := text_le x.table; omega) (by omega)).mono ?_
                  rintro e w15 ⟨rfl, ρ15, hx15, hp15, hf15⟩
                  have HC15 := Lib.hid (HC14.out.put8 hf15 hx15)
                  have HO15 := Lib.hid (HO14.out.fr234 I14.out hf15)
                  have I15 := Lib.hid (I14.out.put hf15 hx15 hp15)
                  clear hx15 hp15 hf15 I14 HC14 HO14 HS14 tl14 el14 hb8
                  have tl15 := I15.out.t.lt
                  have el15 := I15.out.po.e.lt
                  have vc := HC15.out.c 2 _ rfl
                  go_wp2_with fail
                  refine (text_any x.name w15 (by omega) (text x.name) rfl).mono ?_
                  rintro e w15a ⟨A5, n5, c5, rfl, ho, hb⟩
                  have HO15a := Lib.hid (HO15.out.after hb)
                  clear HO15
                  obtain ⟨ρ15a, hx15a, i15a⟩ := I15.out.belowE hb 6
                  have HC15a := Lib.hid (HC15.out.stepT (T := fun _ => False) (.of_below hb) (fun b _ h => h) hx15a)
                  clear HC15
                  have I15a := Lib.hid i15a
                  have HS15a := Lib.hid ho.slb
                  clear hx15a i15a ho hb I15
                  clear vc tl15 el15
                  have tl15a := I15a.out.t.lt
                  have el15a := I15a.out.po.e.lt
                  go_wp2_with fail
                  have hb8 := (Fr.refl (fun _ => False) w15a)
                  refine (tput1_any (r := text x.name) (acc' := ak + (x.space.length + 2) + (x.table.length + 2) + (x.name.length + 2)) I15a.out.po HS15a.out (by intro e h; exact text_ne h) (by have := text_le x.name; omega) (by omega)).mono ?_
                  rintro e w15b ⟨rfl, ρ15b, hx15b, hp15b, hf15b⟩
                  have HC15b := Lib.hid (HC15a.out.put8 hf15b hx15b)
                  have HO15b := Lib.hid (HO15a.out.fr234 I15a.out hf15b)
                  have I15b := Lib.hid (I15a.out.put hf15b hx15b hp15b)
                  clear hx15b hp15b hf15b I15a HC15a HO15a HS15a tl15a el15a hb8
                  have tl15b := I15b.out.t.lt
                  have el15b := I15b.out.po.e.lt
                  have vc3 := HC15b.out.c 3 _ rfl
                  have vc4 := HC15b.out.c 4 _ rfl
                  have vc5 := HC15b.out.c 5 _ rfl
                  have vc6 := HC15b.out.c 6 _ rfl
                  have vc7 := HC15b.out.c 7 _ rfl
                  have hpl := HPL.out.after I15b.out.below
                  have hn := HND.out x HMEM.out
                  go_wp2_with fail
                  refine (oPut_any HO15b.out hM hpl hn (putW (dp + 1) x.type) rfl).mono ?_
                  rintro e w15c ⟨A5, n5, c5, rfl, ho, hb⟩
                  obtain ⟨ρ15c, hx15c, i15c⟩ := I15b.out.belowE hb 6
                  have I15c := Lib.hid i15c
                  have HS15c := Lib.hid ho.slb
                  clear hx15c i15c ho hb I15b
                  clear vc3 vc4 vc5 vc6 vc7 tl15b el15b hpl hn HC15b HO15b
                  have tl15c := I15c.out.t.lt
                  have el15c := I15c.out.po.e.lt
                  go_wp2_with fail
                  refine (tput1_any (r := putW (dp + 1) x.type) (acc' := ak + (x.space.length + 2) + (x.table.length + 2) + (x.name.length + 2) + 200000 * nD (dp + 1) x.type) I15c.out.po HS15c.out (by intro e h; exact putW_nz h) (by have := putW_le (dp + 1) x.type; omega) (by omega)).mono ?_
                  rintro e w15d ⟨rfl, ρ15d, hx15d, hp15d, hf15d⟩
                  have I15d := Lib.hid (I15c.out.put hf15d hx15d hp15d)
                  clear hx15d hp15d hf15d I15c
                  go_wp2_with fail
                  refine ⟨⟨_, k + 1, by omega, by go_num, (I15d.out.as ?_).mono ?_⟩, by simp [intOf]; omega⟩
                  · rw [HSK.out]
                    exact (colSt_t (g := false) (by rfl) s3 HX.out).symm
                  · have h1 := HAK1.out
                    have h2 : colWt (dp + 1) x = x.space.length + x.table.length + x.name.length + 6 + 200000 * nD (dp + 1) x.type := rfl
                    omega
                · have hkn : k = c.2.1 := by omega
                  have he5 : bothW s3 (colSt (dp + 1) false t.cols k) = s5 := by rw [HS5.out, hkn, HCL.out]
                  have hcw : 12 + t.state.bytes.length + ((t.cols.take k).map (colWt (dp + 1))).sum ≤ 12 + t.state.bytes.length + CW := by
                    have := sum_take_leG (colWt (dp + 1)) t.cols k
                    have := HCW.out
                    omega
                  have I11 := Lib.hid ((I10.out.as he5).mono hcw)
                  clear he5 hcw hkn tl10 el10 I10
                  go_wp2_with fail
                  go_meet
                  exact ⟨_, I11⟩
            | true =>
              go_loopw [12, 13, 75] (fun _ _ i wr => ∃ ρ k, k ≤ c.2.1 ∧ i = .int .i64 (k : Nat) ∧ Hid (WI w w.heap.size O E (tabV t c d q) (bothW s3 (colSt (dp + 1) true t.cols k)) (12 + t.state.bytes.length + ((t.cols.take k).map (colWt (dp + 1))).sum) ρ wr)) (fun _ _ i _ => c.2.1 - (intOf i).toNat)
              case atStart => exact ⟨_, 0, by omega, rfl, (I9.out.as (bothW_nilT s3).symm).mono (by omega)⟩
              case round =>
                clear t1 tl9 el9 I9
                obtain ⟨ρ, k, hk, rfl, I10⟩ := hrel
                have tl10 := I10.out.t.lt
                have el10 := I10.out.po.e.lt
                by_cases hlt2 : k < c.2.1
                · obtain ⟨x, hx⟩ : ∃ x, t.cols[k]? = some x := ⟨_, List.getElem?_eq_getElem (by have := HCL.out; omega)⟩
                  have HTK := Lib.hid (goesTb.after HT.out I10.out.below)
                  have hac := HTK.out.cl.at (by decide) (by omega)
                  obtain ⟨b, off, hbo, hSb, hbs, HC⟩ := hac
                  obtain ⟨v, hv1, hp, hv2⟩ := HC k x hx
                  obtain ⟨A1, n1, k1, A2, n2, k2, rfl, hx1, hx2, hx3, hxo⟩ := hp
                  have hc0 := hv2 0 _ rfl
                  have hc1 := hv2 1 _ rfl
                  have hc2 := hv2 2 _ rfl
                  have hc3 := hv2 3 _ rfl
                  have hc4 := hv2 4 _ rfl
                  have hc5 := hv2 5 _ rfl
                  have hc6 := hv2 6 _ rfl
                  have hc7 := hv2 7 _ rfl
                  simp only [Nat.add_zero] at hc0
                  have HO := Lib.hid hxo
                  clear hv1 hv2 HC hxo hSb
                  have HMEM : Hid (x ∈ t.cols) := List.mem_of_getElem? hx
                  obtain ⟨ak, hak⟩ : ∃ ak, ak = 12 + t.state.bytes.length + ((t.cols.take k).map (colWt (dp + 1))).sum := ⟨_, rfl⟩
                  have hak1 : ak + colWt (dp + 1) x = 12 + t.state.bytes.length + ((t.cols.take (k + 1)).map (colWt (dp + 1))).sum := by rw [hak, sum_takeG _ hx]; omega
                  have hak2 : ak + colWt (dp + 1) x ≤ 140737488355328 := by
                    rw [hak1]
                    have := sum_take_leG (colWt (dp + 1)) t.cols (k + 1)
                    have := HCW.out
                    omega
                  have HAK1 := Lib.hid hak1
                  unfold colWt at hak2
                  rw [← hak] at I10
                  clear hak hak1
                  have HX := Lib.hid hx; clear hx
                  obtain ⟨sk, hsk⟩ : ∃ sk, sk = bothW s3 (colSt (dp + 1) true t.cols k) := ⟨_, rfl⟩
                  rw [← hsk] at I10
                  have HSK := Lib.hid hsk; clear hsk
                  go_upto_region 21 with (first | (refine wpList_store_newB (by rfl) 64 _ _ (by rfl) _ _ _ _ (by rfl) (by rfl) (by simp) (by rfl) (by kernel_rfl) (by rfl) (by rfl) ?_; intro w11 hb11 hz11 hx11))
                  obtain ⟨ρ11, hr11, i11⟩ := I10.out.belowE hb11 8
                  have HC11 : Hid (Bx (Rl ρ11 8) w11 wr.heap.size [.string (str x.space), .string (str x.table), .string (str x.name), .int .u16 (x.type.id : Int), .string (str x.type.space), .string (str x.type.name), .slice A1 n1 k1, .slice A2 n2 k2]) := hx11.mono fun b hb _ => by rw [hr11]; exact xt_ge (Nat.le_of_eq hb.symm)
                  have I11 := Lib.hid i11
                  have HOW : Hid (Below wr.heap.size wr w11) := hb11
                  clear i11 hb11 hx11 hr11 hc0 hc1 hc2 hc3 hc4 hc5 hc6 hc7 tl10 el10 hz11 hbo hbs
                  have HOO := Lib.hid (HO.out.after HOW.out)
                  have HPK := Lib.hid (HPL.out.after I11.out.below)
                  clear HO HTK I10 HOW
                  have HO11 := HOO
                  clear HOO
                  by_cases hk0 : k = 0
                  · have hkz : ((k : Int) == 0) = true := by simp [hk0]
                    have HK0 := Lib.hid hk0; clear hk0
                    have tl11 := I11.out.t.lt
                    have el11 := I11.out.po.e.lt
                    have vc := HC11.out.c 0 _ rfl
                    go_wp2_with fail
                    refine (text_any x.space w11 (by omega) (text x.space) rfl).mono ?_
                    rintro e w12 ⟨A5, n5, c5, rfl, ho, hb⟩
                    have HO12 := Lib.hid (HO11.out.after hb)
                    clear HO11
                    obtain ⟨ρ12, hx12, i12⟩ := I11.out.belowE hb 6
                    have HC12 := Lib.hid (HC11.out.stepT (T := fun _ => False) (.of_below hb) (fun b _ h => h) hx12)
                    clear HC11
                    have I12 := Lib.hid i12
                    have HS12 := Lib.hid ho.slb
                    clear hx12 i12 ho hb I11
                    clear vc tl11 el11
                    have tl12 := I12.out.t.lt
                    have el12 := I12.out.po.e.lt
                    go_wp2_with fail
                    have hb8 := (Fr.refl (fun _ => False) w12)
                    refine (tput1_any (r := text x.space) (acc' := ak + (x.space.length + 2)) I12.out.po HS12.out (by intro e h; exact text_ne h) (by have := text_le x.space; omega) (by omega)).mono ?_
                    rintro e w13 ⟨rfl, ρ13, hx13, hp13, hf13⟩
                    have HC13 := Lib.hid (HC12.out.put8 hf13 hx13)
                    have HO13 := Lib.hid (HO12.out.fr234 I12.out hf13)
                    have I13 := Lib.hid (I12.out.put hf13 hx13 hp13)
                    clear hx13 hp13 hf13 I12 HC12 HO12 HS12 tl12 el12 hb8
                    have tl13 := I13.out.t.lt
                    have el13 := I13.out.po.e.lt
                    have vc := HC13.out.c 1 _ rfl
                    go_wp2_with fail
                    refine (text_any x.table w13 (by omega) (text x.table) rfl).mono ?_
                    rintro e w14 ⟨A5, n5, c5, rfl, ho, hb⟩
                    have HO14 := Lib.hid (HO13.out.after hb)
                    clear HO13
                    obtain ⟨ρ14, hx14, i14⟩ := I13.out.belowE hb 6
                    have HC14 := Lib.hid (HC13.out.stepT (T := fun _ => False) (.of_below hb) (fun b _ h => h) hx14)
                    clear HC13
                    have I14 := Lib.hid i14
                    have HS14 := Lib.hid ho.slb
                    clear hx14 i14 ho hb I13
                    clear vc tl13 el13
                    have tl14 := I14.out.t.lt
                    have el14 := I14.out.po.e.lt
                    go_wp2_with fail
                    have hb8 := (Fr.refl (fun _ => False) w14)
                    refine (tput1_any (r := text x.table) (acc' := ak + (x.space.length + 2) + (x.table.length + 2)) I14.out.po HS14.out (by intro e h; exact text_ne h) (by have := text_le x.table; omega) (by omega)).mono ?_
                    rintro e w15 ⟨rfl, ρ15, hx15, hp15, hf15⟩
                    have HC15 := Lib.hid (HC14.out.put8 hf15 hx15)
                    have HO15 := Lib.hid (HO14.out.fr234 I14.out hf15)
                    have I15 := Lib.hid (I14.out.put hf15 hx15 hp15)
                    clear hx15 hp15 hf15 I14 HC14 HO14 HS14 tl14 el14 hb8
                    have tl15 := I15.out.t.lt
                    have el15 := I15.out.po.e.lt
                    have vc := HC15.out.c 2 _ rfl
                    go_wp2_with fail
                    refine (text_any x.name w15 (by omega) (text x.name) rfl).mono ?_
                    rintro e w15a ⟨A5, n5, c5, rfl, ho, hb⟩
                    have HO15a := Lib.hid (HO15.out.after hb)
                    clear HO15
                    obtain ⟨ρ15a, hx15a, i15a⟩ := I15.out.belowE hb 6
                    have HC15a := Lib.hid (HC15.out.stepT (T := fun _ => False) (.of_below hb) (fun b _ h => h) hx15a)
                    clear HC15
                    have I15a := Lib.hid i15a
                    have HS15a := Lib.hid ho.slb
                    clear hx15a i15a ho hb I15
                    clear vc tl15 el15
                    have tl15a := I15a.out.t.lt
                    have el15a := I15a.out.po.e.lt
                    go_wp2_with fail
                    have hb8 := (Fr.refl (fun _ => False) w15a)
                    refine (tput1_any (r := text x.name) (acc' := ak + (x.space.length + 2) + (x.table.length + 2) + (x.name.length + 2)) I15a.out.po HS15a.out (by intro e h; exact text_ne h) (by have := text_le x.name; omega) (by omega)).mono ?_
                    rintro e w15b ⟨rfl, ρ15b, hx15b, hp15b, hf15b⟩
                    have HC15b := Lib.hid (HC15a.out.put8 hf15b hx15b)
                    have HO15b := Lib.hid (HO15a.out.fr234 I15a.out hf15b)
                    have I15b := Lib.hid (I15a.out.put hf15b hx15b hp15b)
                    clear hx15b hp15b hf15b I15a HC15a HO15a HS15a tl15a el15a hb8
                    have tl15b := I15b.out.t.lt
                    have el15b := I15b.out.po.e.lt
                    have vc3 := HC15b.out.c 3 _ rfl
                    have vc4 := HC15b.out.c 4 _ rfl
                    have vc5 := HC15b.out.c 5 _ rfl
                    have vc6 := HC15b.out.c 6 _ rfl
                    have vc7 := HC15b.out.c 7 _ rfl
                    have hpl := HPL.out.after I15b.out.below
                    have hn := HND.out x HMEM.out
                    go_wp2_with fail
                    refine (oPut_any HO15b.out hM hpl hn (putW (dp + 1) x.type) rfl).mono ?_
                    rintro e w15c ⟨A5, n5, c5, rfl, ho, hb⟩
                    obtain ⟨ρ15c, hx15c, i15c⟩ := I15b.out.belowE hb 6
                    have I15c := Lib.hid i15c
                    have HS15c := Lib.hid ho.slb
                    clear hx15c i15c ho hb I15b
                    clear vc3 vc4 vc5 vc6 vc7 tl15b el15b hpl hn HC15b HO15b
                    have tl15c := I15c.out.t.lt
                    have el15c := I15c.out.po.e.lt
                    go_wp2_with fail
                    refine (tput1_any (r := putW (dp + 1) x.type) (acc' := ak + (x.space.length + 2) + (x.table.length + 2) + (x.name.length + 2) + 200000 * nD (dp + 1) x.type) I15c.out.po HS15c.out (by intro e h; exact putW_nz h) (by have := putW_le (dp + 1) x.type; omega) (by omega)).mono ?_
                    rintro e w15d ⟨rfl, ρ15d, hx15d, hp15d, hf15d⟩
                    have I15d := Lib.hid (I15c.out.put hf15d hx15d hp15d)
                    clear hx15d hp15d hf15d I15c
                    go_wp2_with fail
                    refine ⟨⟨_, k + 1, by omega, by go_num, (I15d.out.as ?_).mono ?_⟩, by simp [intOf]; omega⟩
                    · rw [HSK.out]
                      exact (colSt_t (g := true) (by simp [HK0.out]) s3 HX.out).symm
                    · have h1 := HAK1.out
                      have h2 : colWt (dp + 1) x = x.space.length + x.table.length + x.name.length + 6 + 200000 * nD (dp + 1) x.type := rfl
                      omega
                  · have hkz : ((k : Int) == 0) = false := by simp [hk0]
                    have HK0 := Lib.hid hk0; clear hk0
                    have tl11 := I11.out.t.lt
                    have el11 := I11.out.po.e.lt
                    have vc := HC11.out.c 2 _ rfl
                    go_wp2_with fail
                    refine (text_any x.name w11 (by omega) (text x.name) rfl).mono ?_
                    rintro e w11a ⟨A5, n5, c5, rfl, ho, hb⟩
                    have HO11a := Lib.hid (HO11.out.after hb)
                    clear HO11
                    obtain ⟨ρ11a, hx11a, i11a⟩ := I11.out.belowE hb 6
                    have HC11a := Lib.hid (HC11.out.stepT (T := fun _ => False) (.of_below hb) (fun b _ h => h) hx11a)
                    clear HC11
                    have I11a := Lib.hid i11a
                    have HS11a := Lib.hid ho.slb
                    clear hx11a i11a ho hb I11
                    clear vc tl11 el11
                    have tl11a := I11a.out.t.lt
                    have el11a := I11a.out.po.e.lt
                    go_wp2_with fail
                    have hb8 := (Fr.refl (fun _ => False) w11a)
                    refine (tput1_any (r := text x.name) (acc' := ak + (x.name.length + 2)) I11a.out.po HS11a.out (by intro e h; exact text_ne h) (by have := text_le x.name; omega) (by omega)).mono ?_
                    rintro e w11b ⟨rfl, ρ11b, hx11b, hp11b, hf11b⟩
                    have HC11b := Lib.hid (HC11a.out.put8 hf11b hx11b)
                    have HO11b := Lib.hid (HO11a.out.fr234 I11a.out hf11b)
                    have I11b := Lib.hid (I11a.out.put hf11b hx11b hp11b)
                    clear hx11b hp11b hf11b I11a HC11a HO11a HS11a tl11a el11a hb8
                    have tl11b := I11b.out.t.lt
                    have el11b := I11b.out.po.e.lt
                    have vc3 := HC11b.out.c 3 _ rfl
                    have vc4 := HC11b.out.c 4 _ rfl
                    have vc5 := HC11b.out.c 5 _ rfl
                    have vc6 := HC11b.out.c 6 _ rfl
                    have vc7 := HC11b.out.c 7 _ rfl
                    have hpl := HPL.out.after I11b.out.below
                    have hn := HND.out x HMEM.out
                    go_wp2_with fail
                    refine (oPut_any HO11b.out hM hpl hn (putW (dp + 1) x.type) rfl).mono ?_
                    rintro e w11c ⟨A5, n5, c5, rfl, ho, hb⟩
                    obtain ⟨ρ11c, hx11c, i11c⟩ := I11b.out.belowE hb 6
                    have I11c := Lib.hid i11c
                    have HS11c := Lib.hid ho.slb
                    clear hx11c i11c ho hb I11b
                    clear vc3 vc4 vc5 vc6 vc7 tl11b el11b hpl hn HC11b HO11b
                    have tl11c := I11c.out.t.lt
                    have el11c := I11c.out.po.e.lt
                    go_wp2_with fail
                    refine (tput1_any (r := putW (dp + 1) x.type) (acc' := ak + (x.name.length + 2) + 200000 * nD (dp + 1) x.type) I11c.out.po HS11c.out (by intro e h; exact putW_nz h) (by have := putW_le (dp + 1) x.type; omega) (by omega)).mono ?_
                    rintro e w11d ⟨rfl, ρ11d, hx11d, hp11d, hf11d⟩
                    have I11d := Lib.hid (I11c.out.put hf11d hx11d hp11d)
                    clear hx11d hp11d hf11d I11c
                    go_wp2_with fail
                    refine ⟨⟨_, k + 1, by omega, by go_num, (I11d.out.as ?_).mono ?_⟩, by simp [intOf]; omega⟩
                    · rw [HSK.out]
                      exact (colSt_f (g := true) (by simp [HK0.out]) s3 HX.out).symm
                    · have h1 := HAK1.out
                      have h2 : colWt (dp + 1) x = x.space.length + x.table.length + x.name.length + 6 + 200000 * nD (dp + 1) x.type := rfl
                      omega
                · have hkn : k = c.2.1 := by omega
                  have he5 : bothW s3 (colSt (dp + 1) true t.cols k) = s5 := by rw [HS5.out, hkn, HCL.out]
                  have hcw : 12 + t.state.bytes.length + ((t.cols.take k).map (colWt (dp + 1))).sum ≤ 12 + t.state.bytes.length + CW := by
                    have := sum_take_leG (colWt (dp + 1)) t.cols k
                    have := HCW.out
                    omega
                  have I11 := Lib.hid ((I10.out.as he5).mono hcw)
                  clear he5 hcw hkn tl10 el10 I10
                  go_wp2_with fail
                  go_meet
                  exact ⟨_, I11⟩
          case rest =>
            obtain ⟨ρ11, I11⟩ := hcut
            obtain ⟨w11, hwo⟩ : ∃ wo, wo = wc := ⟨_, rfl⟩
            subst hwo
            clear t1 tl9 el9 I9
            have tl11 := I11.out.t.lt
            have el11 := I11.out.po.e.lt
            have t5 := I11.out.t.c 5 _ rfl
            go_wp2_with fail
            refine (put_any (q.2.1 : Int) 4 w11 (by omega) (by omega) (by omega) (by omega)).mono ?_
            rw [Int.toNat_natCast]
            rintro e w12 ⟨A5, n5, c5, rfl, ho, hb⟩
            obtain ⟨ρ12, hx12, i12⟩ := I11.out.belowE hb 6
            have I12 := Lib.hid i12
            have HS12 := Lib.hid ho.slb
            clear hx12 i12 ho hb I11
            clear t5 tl11 el11
            have tl12 := I12.out.t.lt
            have el12 := I12.out.po.e.lt
            go_wp2_with fail
            refine (tput1_any (r := .ok (enc 4 q.2.1)) (acc' := 16 + t.state.bytes.length + CW) I12.out.po HS12.out (by intro e h; cases h) (by simp [wval, enc_length]; omega) (by omega)).mono ?_
            rintro e w13 ⟨rfl, ρ13, hx13, hp13, hf13⟩
            have I13 := Lib.hid (I12.out.put hf13 hx13 hp13)
            clear hx13 hp13 hf13 I12
            clear HS12 tl12 el12
            have tl13 := I13.out.t.lt
            have el13 := I13.out.po.e.lt
            have t5 := I13.out.t.c 5 _ rfl
            obtain ⟨s6, hs6⟩ : ∃ s6, s6 = bothW s5 (.ok (enc 4 q.2.1)) := ⟨_, rfl⟩
            rw [← hs6] at I13
            have HS6 := Lib.hid hs6; clear hs6
            go_wp2_with fail
            go_loopw [15, 17, 125] (fun _ _ i wr => ∃ ρ k, k ≤ q.2.1 ∧ i = .int .i64 (k : Nat) ∧ Hid (WI w w.heap.size O E (tabV t c d q) (bothW s6 (putsM (putsM value) (t.rows.take k))) (16 + t.state.bytes.length + CW + ((t.rows.take k).map rowWt).sum) ρ wr)) (fun _ _ i _ => q.2.1 - (intOf i).toNat)
            case atStart => exact ⟨_, 0, by omega, rfl, (I13.out.as (bothW_nilT s6).symm).mono (by simp)⟩
            case round =>
              clear t5 tl13 el13 I13
              obtain ⟨ρ, k, hk, rfl, I14⟩ := hrel
              have tl14 := I14.out.t.lt
              have el14 := I14.out.po.e.lt
              by_cases hlt3 : k < q.2.1
              · obtain ⟨x, hx⟩ : ∃ x, t.rows[k]? = some x := ⟨_, List.getElem?_eq_getElem (by have := HRL.out; omega)⟩
                have hac := HT.out.rw.at (by decide) (by omega)
                obtain ⟨b, off, hbo, hSb, hbs, HC⟩ := hac
                obtain ⟨qA, qN, qK⟩ := q
                dsimp only at hbo
                subst hbo
                obtain ⟨v, hv1, hp, hv2⟩ := HC k x hx
                obtain ⟨XA, XN, XK, rfl, hxr⟩ := hp
                have hc0 := kcell I14.out.below (hv2 0 _ rfl)
                simp only [Nat.add_zero, Nat.mul_one] at hc0
                have HXR := Lib.hid hxr
                have hxl := hxr.len
                have hxc := hxr.cap
                have hxm := hxr.capMax
                have HXL := Lib.hid hxl; clear hxl
                clear hv1 hv2 HC hxr hSb
                obtain ⟨ak, hak⟩ : ∃ ak, ak = 16 + t.state.bytes.length + CW + ((t.rows.take k).map rowWt).sum := ⟨_, rfl⟩
                have hak1 : ak + rowWt x = 16 + t.state.bytes.length + CW + ((t.rows.take (k + 1)).map rowWt).sum := by rw [hak, sum_takeG _ hx]; omega
                have hak2 : ak + rowWt x ≤ 140737488355328 := by
                  rw [hak1]
                  have := sum_take_leG rowWt t.rows (k + 1)
                  have := HRW.out
                  omega
                have HAK1 := Lib.hid hak1
                rw [← hak] at I14
                clear hak hak1
                have HX := Lib.hid hx; clear hx
                obtain ⟨sk, hsk⟩ : ∃ sk, sk = bothW s6 (putsM (putsM value) (t.rows.take k)) := ⟨_, rfl⟩
                rw [← hsk] at I14
                have HSK := Lib.hid hsk; clear hsk
                obtain ⟨wo, hwo⟩ : ∃ wo, wo = wr := ⟨_, rfl⟩
                subst hwo
                have HBW := Lib.hid I14.out.below
                go_wp2_with fail
                go_loopw [17, 131] (fun _ i wr => ∃ ρ j, j ≤ XN ∧ i = .int .i64 (j : Nat) ∧ Hid (WI w w.heap.size O E (tabV t c d (some ⟨b, off, none⟩, qN, qK)) (bothW sk (putsM value (x.take j))) (ak + ((x.take j).map fun v => v.bytes.length + 4).sum) ρ wr)) (fun _ i _ => XN - (intOf i).toNat)
                case atStart => exact ⟨_, 0, by omega, rfl, (I14.out.as (bothW_nilT sk).symm).mono (by simp)⟩
                case round =>
                  clear hc0 tl14 el14 I14
                  obtain ⟨ρ5, j, hj, rfl, I15⟩ := hrel
                  have tl15 := I15.out.t.lt
                  have el15 := I15.out.po.e.lt
                  by_cases hlt4 : j < XN
                  · obtain ⟨y, hy⟩ : ∃ y, x[j]? = some y := ⟨_, List.getElem?_eq_getElem (by have := HXL.out; omega)⟩
                    obtain ⟨b2, off2, rfl, hSb2, hbs2, HC2⟩ := HXR.out.at (by decide) (by omega)
                    obtain ⟨v2, gv1, gp, gv2⟩ := HC2 j y hy
                    obtain ⟨YA, YN, YK, rfl, hyr⟩ := gp
                    have hd0 := kcell I15.out.below (gv2 0 _ rfl)
                    have hd1 := kcell I15.out.below (gv2 1 _ rfl)
                    simp only [Nat.add_zero] at hd0
                    have HYR := Lib.hid (goesSl.after hyr I15.out.below)
                    have HYL := Lib.hid hyr.len
                    clear hSb2 HC2 gv1 gv2 hyr
                    obtain ⟨aj, haj⟩ : ∃ aj, aj = ak + ((x.take j).map fun v => v.bytes.length + 4).sum := ⟨_, rfl⟩
                    have haj1 : aj + (y.bytes.length + 4) = ak + ((x.take (j + 1)).map fun v => v.bytes.length + 4).sum := by rw [haj, sum_takeG (fun v : Val => v.bytes.length + 4) hy]; omega
                    have haj2 : aj + (y.bytes.length + 4) ≤ 140737488355328 := by
                      rw [haj1]
                      have := sum_take_leG (fun v : Val => v.bytes.length + 4) x (j + 1)
                      unfold rowWt at hak2
                      omega
                    have HAJ1 := Lib.hid haj1
                    rw [← haj] at I15
                    clear haj haj1
                    have HY := Lib.hid hy; clear hy
                    have hyl : YN ≤ 140737488355324 := by have := HYL.out; omega
                    go_wp2_with fail
                    refine (value_any (v := y) (goesSl.after HYR.out (by repeat (first | exact Below.refl _ _ | assumption | refine Below.drew ?_ | refine below_drewN ?_ _ | refine Below.alloc ?_ (by first | (simp; done) | omega | (simp; omega)) _ | refine Below.setCell ?_ (by first | (simp; done) | omega | (simp; omega)) _))) hyl (value y) rfl).mono ?_
                    rintro e w16 ⟨A5, n5, c5, rfl, ho, hb'⟩
                    have hb : Below wr.heap.size wr w16 := Below.trans (by repeat (first | exact Below.refl _ _ | assumption | refine Below.drew ?_ | refine below_drewN ?_ _ | refine Below.alloc ?_ (by first | (simp; done) | omega | (simp; omega)) _ | refine Below.setCell ?_ (by first | (simp; done) | omega | (simp; omega)) _)) (hb'.mono (by simp))
                    clear hb' hd0 hd1 hbs2
                    obtain ⟨ρ16, hx16, i16⟩ := I15.out.belowE hb 6
                    have I16 := Lib.hid i16
                    have HS16 := Lib.hid ho.slb
                    clear hx16 i16 ho hb I15
                    clear tl15 el15
                    have tl16 := I16.out.t.lt
                    have el16 := I16.out.po.e.lt
                    go_wp2_with fail
                    refine (tput1_any (r := value y) (acc' := aj + (y.bytes.length + 4)) I16.out.po HS16.out (by intro e h; exact value_ne h) (by have := value_le y; omega) (by omega)).mono ?_
                    rintro e w17 ⟨rfl, ρ17, hx17, hp17, hf17⟩
                    have I17 := Lib.hid (I16.out.put hf17 hx17 hp17)
                    clear hx17 hp17 hf17 I16
                    have he7 : bothW (bothW sk (putsM value (x.take j))) (value y) = bothW sk (putsM value (x.take (j + 1))) := by rw [← bothW_assoc, ← putsM_snocT value HY.out]
                    have I18 := Lib.hid ((I17.out.as he7).mono (Nat.le_of_eq HAJ1.out))
                    clear he7
                    go_wp2_with fail
                    first | exact ⟨⟨_, j + 1, by omega, by go_num, I18⟩, by simp [intOf]; omega⟩ | exact ⟨⟨_, _, _, _, _, _, _, _, _, _, _, _, ⟨_, j + 1, by omega, by go_num, I18⟩, rfl⟩, by simp [intOf]; omega⟩
                  · have hjn : j = XN := by omega
                    have he6 : bothW sk (putsM value (x.take j)) = bothW s6 (putsM (putsM value) (t.rows.take (k + 1))) := by
                      rw [putsM_snocT _ HX.out, bothW_assoc, ← HSK.out, hjn, HXL.out, List.take_length]
                    have ha6 : ak + ((x.take j).map fun v => v.bytes.length + 4).sum ≤ 16 + t.state.bytes.length + CW + ((t.rows.take (k + 1)).map rowWt).sum := by
                      rw [← HAK1.out, hjn, HXL.out, List.take_length]
                      exact Nat.le_refl _
                    have I16 := Lib.hid ((I15.out.as he6).mono ha6)
                    clear he6 ha6 hjn
                    go_wp2_with fail
                    refine ⟨⟨_, k + 1, by omega, by go_num, I16⟩, by simp [intOf]; omega⟩
              · have hkn : k = q.2.1 := by omega
                have hsF : bothW s6 (putsM (putsM value) (t.rows.take k)) = r0 := by
                  rw [HR1.out, putT_eq, HFL.out, ← HMO.out, ← HG.out, show t.count.toNat = m from by have := HMM.out; omega, HS6.out, HS5.out, HS3.out, HS2.out, hkn, HRL.out, List.take_length]
                have I15 := Lib.hid (I14.out.as hsF)
                clear hsF hkn tl14 el14 I14
                have HBF := Lib.hid I15.out.below
                have e0 := I15.out.po.e.c 0 _ rfl
                have el := I15.out.po.e.lt
                have hne := I15.out.po.ne
                obtain ⟨FA, FN, FK, fbs, fo, fown, fcur⟩ := I15.out.po.o
                have HFO : Hid (∀ b, Rl ρ 4 b → w.heap.size ≤ b) := fun b hb => I15.out.bs.ge hb (by decide)
                have f0 := fo.c 0 _ rfl
                have fl0 := fo.lt
                clear fo
                cases r0 with
                | error er =>
                  have hne1 : er ≠ 0 := hne er rfl
                  clear hne fown fcur f0
                  simp only [werr_error] at e0
                  go_upto_region 38 with fail
                  go_quiet (fail)
                  go_wp2_with fail
                  go_ret2
                  exact ⟨none, 0, 0, rfl, Own.nil, by have := HBF.out; exact (by repeat (first | exact Below.refl _ _ | assumption | refine Below.drew ?_ | refine below_drewN ?_ _ | refine Below.alloc ?_ (by simp) _ | refine Below.setCell ?_ (by simp) _))⟩
                | ok cur =>
                  obtain ⟨rfl, _⟩ := fcur cur rfl
                  have HFW := Lib.hid (fown.own HFO.out)
                  clear hne fown fcur
                  simp only [werr_ok] at e0
                  go_wp2_with fail
                  go_ret2
                  exact ⟨FA, FN, FK, rfl, HFW.out, HBF.out⟩
end Go.Proofs.Sb
