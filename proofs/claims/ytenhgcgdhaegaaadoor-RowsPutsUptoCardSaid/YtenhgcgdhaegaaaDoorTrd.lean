/- Walk over signalboxref10.Get. Conditions: lengths up to 2^47. (written by gen_trd.py) -/
import Derived.Test.YtenhgcgdhaegaaaDoorTrc
import Derived.Test.YtenhgcgdhaegaaaDoorTal
import Derived.Test.YtenhgcgdhaegaaaDoorRefb
set_option linter.unusedVariables false
set_option linter.unusedSimpArgs false
namespace Sb
theorem endR_err {α : Type} {g : B → Res α} {b : B} {e : Int} (h : g b = .error e) : endR g b = .error e := by unfold endR; rw [h]
theorem getTb_e1 {b : B} {e : Int} (h : colsR false b = .error e) : getTb b = .error e := endR_err (by unfold tbR; exact bindR_err h)
theorem getTb_e2 {b b1 : B} {p : Tb × List Nat} {e : Int} (h : colsR false b = .ok (p, b1)) (h2 : getCnt b1 = .error e) : getTb b = .error e := endR_err (by unfold tbR; rw [bindR_ok h]; exact bindR_err h2)
theorem getTb_e3 {b b1 b2 : B} {N n : Nat} {cs : List Col} {mo : Bool} {sv : Val} {l : List Nat} {e : Int} (h : colsR false b = .ok ((⟨N, cs, mo, sv, []⟩, l), b1)) (h2 : getCnt b1 = .ok (n, b2)) (h3 : rowsT N n b2 = .error e) : getTb b = .error e := endR_err (by unfold tbR; rw [bindR_ok h, bindR_ok h2]; exact bindR_err (by rw [Int.toNat_natCast]; exact h3))
theorem getTb_o {b b1 b2 b3 : B} {N n : Nat} {cs : List Col} {mo : Bool} {sv : Val} {l : List Nat} {rs : List (List Val)} (h : colsR false b = .ok ((⟨N, cs, mo, sv, []⟩, l), b1)) (h2 : getCnt b1 = .ok (n, b2)) (h3 : rowsT N n b2 = .ok (rs, b3)) : getTb b = if b3.length = 0 then .ok ⟨N, cs, mo, sv, rs⟩ else .error 23 := by
  have e : tbR b = .ok (⟨N, cs, mo, sv, rs⟩, b3) := by unfold tbR; rw [bindR_ok h, bindR_ok h2]; exact bindR_ok (by rw [Int.toNat_natCast]; exact h3)
  unfold getTb endR
  rw [e]
theorem gv_len10 {b : B} {v : Val} {r : B} (h : getValue b = .ok (v, r)) : v.bytes.length ≤ b.length := by
  unfold getValue at h
  cases hg : getNum b with
  | error e' => rw [hg] at h; cases h
  | ok p =>
    obtain ⟨n, q⟩ := p
    have h1 := (getNum_ok hg).2.1
    have h2 : q.length ≤ b.length := by rw [h1, List.length_drop]; omega
    rw [hg] at h
    simp only at h
    split at h
    · injection h with h; injection h with e1 e2; rw [← e1]; simp
    · split at h
      · injection h with h; injection h with e1 e2; rw [← e1]; simp
      · split at h
        · cases h
        · cases hq : takeN n.toNat q with
          | error e2 => rw [hq] at h; cases h
          | ok p2 =>
            obtain ⟨y, q2⟩ := p2
            rw [hq] at h
            injection h with h
            injection h with e1 e2
            rw [← e1]
            have := (takeN_ok hq).2.1
            have : y.length ≤ q.length := by rw [this, List.length_take]; omega
            simp only
            omega
theorem valT_e {b : B} {e : Int} (h : getValue b = .error e) : valT b = .error e := by unfold valT; exact bindR_err h
theorem valT_1 {b b1 : B} {v : Val} (h : getValue b = .ok (v, b1)) (hk : v.kind = 1) : valT b = .error 11 := by unfold valT; rw [bindR_ok h, if_pos (by simp [hk])]
theorem valT_o {b b1 : B} {v : Val} (h : getValue b = .ok (v, b1)) (hk : v.kind ≠ 1) : valT b = .ok (v, b1) := by unfold valT; rw [bindR_ok h, if_neg (by simp [hk])]
end Sb
namespace Go.Proofs.Sb
open Go.RowKit _root_.Sb
/-- a value of the reference in two cells -/
def vRf (v : Val) (c : List Value) : Prop := c = [.int .i64 v.kind, .string (str v.bytes)] ∧ v.bytes.length ≤ 9223372036854775807
theorem vRf_one (v : Val) (c : List Value) (h : vRf v c) : ∀ u ∈ c, u.oneCell' = true := by
  rw [h.1]
  intro u hu
  simp only [List.mem_cons, List.not_mem_nil, or_false] at hu
  rcases hu with rfl | rfl <;> rfl
theorem tyV10 : Ty 84 35 2 24 (.agg #[.int .i64 0, .string ⟨#[]⟩]) := ⟨Tryd.underlying84, by kernel_rfl, rfl, by decide⟩
theorem tyR10 : Ty 36 84 1 24 (.slice none 0 0) := ⟨Tryd.underlying36, by kernel_rfl, rfl, by decide⟩
/-- a row of the reference in a cell -/
def rrowP (S : Nat → Prop) (w : World) (l : List Val) (c : List Value) : Prop := ∃ A n k, c = [.slice A n k] ∧ Arr 2 vRf S w A n k l
theorem goesRR (l : List Val) (c : List Value) : Goes fun S w => rrowP S w l c := ⟨fun ⟨A, n, k, e, h⟩ hs hk => ⟨A, n, k, e, goesArr.keep h hs hk⟩, fun ⟨A, n, k, e, h⟩ hS => ⟨A, n, k, e, goesArr.mono h hS⟩⟩
theorem rrowP_one {S : Nat → Prop} {w : World} (v : List Val) (c : List Value) (h : rrowP S w v c) : ∀ u ∈ c, u.oneCell' = true := by
  obtain ⟨A, n, k, rfl, _⟩ := h
  intro u hu
  simp at hu
  subst hu
  rfl
/-- a table of the reference: its columns, its rows -/
structure RTbR (M dp : Nat) (S : Nat → Prop) (w : World) (c q : Pl3) (t : Tb) : Prop where
  cl : Arr 8 (colP M dp S w) S w c.1 c.2.1 c.2.2 t.cols
  rw : Arr 1 (rrowP S w) S w q.1 q.2.1 q.2.2 t.rows
theorem goesRTb {M dp : Nat} {c q : Pl3} {t : Tb} : Goes fun S w => RTbR M dp S w c q t :=
  ⟨fun h hs hk => ⟨(goesArrD goesCol).keep h.cl hs hk, (goesArrD goesRR).keep h.rw hs hk⟩, fun h hS => ⟨(goesArrD goesCol).mono h.cl hS, (goesArrD goesRR).mono h.rw hS⟩⟩
theorem RTbR.none {M dp : Nat} {S : Nat → Prop} {w : World} : RTbR M dp S w Pl3.none Pl3.none Tb.none := ⟨Arr.nil, Arr.nil⟩
/-- along the walk of the reference's Get -/
structure RG (w : World) (R T : Nat) (vs : List Value) (c : Pl3) (cs : List Col) (q : Pl3) (rs : List (List Val)) (u : Pl3) (us : List Val) (ρ : Nat → Nat) (wx : World) : Prop where
  bs : Bs ρ (fun _ => False) w wx
  r : Bx (Rl ρ 2) wx R zR
  t : Bx (Rl ρ 3) wx T vs
  cl : Arr 8 (colP 9223372036854775807 20 (Rl ρ 6) wx) (Rl ρ 6) wx c.1 c.2.1 c.2.2 cs
  rw : OwnS 84 1 (rrowP (Rl ρ 6) wx) (Rl ρ 4) wx q.1 q.2.1 q.2.2 rs
  us : OwnS 35 2 vRf (Rl ρ 5) wx u.1 u.2.1 u.2.2 us
section
variable {w wx w' : World} {R T : Nat} {vs : List Value} {c q u : Pl3} {cs : List Col} {rs : List (List Val)} {us : List Val} {ρ ρ' : Nat → Nat}
theorem RG.after (h : RG w R T vs c cs q rs u us ρ wx) (hb : Below wx.heap.size wx w') : RG w R T vs c cs q rs u us ρ w' :=
  ⟨h.bs.after hb, h.r.after hb, h.t.after hb, (goesArrD goesCol).after h.cl hb, (h.rw.after hb).deepA (Pf := rrowP) goesRR hb, h.us.after hb⟩
theorem RG.belowE (h : RG w R T vs c cs q rs u us ρ wx) (hb : Below wx.heap.size wx w') (t : Nat) : ∃ ρ', ρ' = xt ρ wx.heap.size t ∧ RG w R T vs c cs q rs u us ρ' w' :=
  have hf : Fr (Rl ρ 10) wx w' := .of_below hb
  ⟨_, rfl, h.bs.stepx hf rfl, h.r.stepx hf rfl, h.t.stepx hf rfl, (goesArrD goesCol).step h.cl hf (by decide) _ (Nat.le_refl _), (h.rw.stepx hf rfl).deepx (Pf := rrowP) goesRR hf rfl, h.us.stepx hf rfl⟩
theorem RG.stay (h : RG w R T vs c cs q rs u us ρ wx) (hf : Fr (Rl ρ 7) wx w') : RG w R T vs c cs q rs u us ρ w' :=
  ⟨h.bs.stay hf, h.r.stay hf, h.t.stay hf, (goesArrD goesCol).stay h.cl hf (by decide), (h.rw.stay hf).deepS (Pf := rrowP) goesRR hf, h.us.stay hf⟩
theorem RG.app5 (h : RG w R T vs c cs q rs u us ρ wx) {u' : Pl3} {us' : List Val} (hf : Fr (Rl ρ 5) wx w') (hx : ρ' = xt ρ wx.heap.size 5) (hp : OwnS 35 2 vRf (Rl ρ' 5) w' u'.1 u'.2.1 u'.2.2 us') : RG w R T vs c cs q rs u' us' ρ' w' :=
  ⟨h.bs.stepx hf hx, h.r.stepx hf hx, h.t.stepx hf hx, hx ▸ (goesArrD goesCol).step h.cl hf (by decide) _ (Nat.le_refl _), (h.rw.stepx hf hx).deepx (Pf := rrowP) goesRR hf hx, hp⟩
theorem RG.app4 (h : RG w R T vs c cs q rs u us ρ wx) {q' : Pl3} {rs' : List (List Val)} (hf : Fr (Rl ρ 4) wx w') (hx : ρ' = xt ρ wx.heap.size 4) (hp : OwnS 84 1 (rrowP (Rl ρ 6) wx) (Rl ρ' 4) w' q'.1 q'.2.1 q'.2.2 rs') : RG w R T vs c cs q' rs' u us ρ' w' :=
  ⟨h.bs.stepx hf hx, h.r.stepx hf hx, h.t.stepx hf hx, hx ▸ (goesArrD goesCol).step h.cl hf (by decide) _ (Nat.le_refl _), hp.deepx (Pf := rrowP) goesRR hf hx, h.us.stepx hf hx⟩
theorem RG.put (h : RG w R T vs c cs q rs u us ρ wx) (i : Nat) (v : Value) (hi : i < vs.length) : RG w R T (vs.set i v) c cs q rs u us ρ (wx.setCell ⟨T, i, none⟩ v) :=
  have hf : Fr (Rl ρ 3) wx (wx.setCell ⟨T, i, none⟩ v) := h.t.frPut i v
  ⟨h.bs.stay hf, h.r.stay hf, h.t.put i v hi, (goesArrD goesCol).stay h.cl hf (by decide), (h.rw.stay hf).deepS (Pf := rrowP) goesRR hf, h.us.stay hf⟩
theorem RG.merge (h : RG w R T vs c cs q rs u us ρ wx) : ∃ ρ', RG w R T vs c cs q rs Pl3.none [] ρ' wx ∧ Arr 2 vRf (Rl ρ' 6) wx u.1 u.2.1 u.2.2 us := by
  refine ⟨fun b => if ρ b = 5 then 6 else ρ b, ?_⟩
  have hk : ∀ k, k ≠ 5 → ∀ b, ρ b = k → (if ρ b = 5 then 6 else ρ b) = k := fun k h5 b e => by rw [if_neg (by omega)]; exact e
  have h6 : ∀ b, ρ b = 5 → (if ρ b = 5 then 6 else ρ b) = 6 := fun b e => by rw [if_pos e]
  refine ⟨⟨⟨fun b h1 h2 => hk 0 (by decide) b (h.bs.role b h1 h2), h.bs.fr⟩, h.r.mono fun b e _ => hk 2 (by decide) b e, h.t.mono fun b e _ => hk 3 (by decide) b e, (goesArrD goesCol).mono h.cl fun b e _ => hk 6 (by decide) b e, ?_, OwnS.nil⟩, ?_⟩
  · exact (h.rw.mono fun b e _ => hk 4 (by decide) b e).imp fun x _ v hp => (goesRR x v).mono hp fun b e _ => hk 6 (by decide) b e
  · exact (h.us.arr (by decide)).mono fun b e _ => h6 b e
theorem RG.fin (h : RG w R T vs c cs q rs u us ρ wx) (hg : wx.grownBy w' (some R)) : Below w.heap.size w w' ∧ Arr 8 (colP 9223372036854775807 20 (fun b => w.heap.size ≤ b) w') (fun b => w.heap.size ≤ b) w' c.1 c.2.1 c.2.2 cs ∧ Arr 1 (rrowP (fun b => w.heap.size ≤ b) w') (fun b => w.heap.size ≤ b) w' q.1 q.2.1 q.2.2 rs := by
  have hf : Fr (Rl ρ 2) wx w' := Fr.of_grown hg fun b e => by injection e with e; subst e; exact h.r.role
  have hb := h.bs.stay hf
  have ge : ∀ {b k : Nat}, ρ b = k → k ≠ 0 → w.heap.size ≤ b := fun e h0 => hb.ge e h0
  exact ⟨hb.below, (goesArrD goesCol).mono ((goesArrD goesCol).stay h.cl hf (by decide)) fun b e _ => ge e (by decide), ((((h.rw.stay hf).deepS (Pf := rrowP) goesRR hf).arr (by decide)).mono fun b e _ => ge e (by decide)).imp fun x _ v hp => (goesRR x v).mono hp fun b e _ => ge e (by decide)⟩
theorem RG.start {S2 : Nat → Prop} (hR : Bx (fun b => b = w.heap.size) wx w.heap.size zR) (hb : Below w.heap.size w wx) (hT : Bx (fun b => b = T) wx T vs) (hTX : w.heap.size < T) (hc : Arr 8 (colP 9223372036854775807 20 S2 wx) S2 wx c.1 c.2.1 c.2.2 cs) (hS2 : ∀ b, S2 b → w.heap.size < b ∧ b ≠ T) :
    ∃ ρ, RG w w.heap.size T vs c cs Pl3.none [] Pl3.none [] ρ wx := by
  have h6 : ∀ b, S2 b → (if b < w.heap.size then 0 else if b = w.heap.size then 2 else if b = T then 3 else 6) = 6 := fun b hb => by
    have := hS2 b hb
    rw [if_neg (by omega), if_neg (by omega), if_neg (by omega)]
  refine ⟨fun b => if b < w.heap.size then 0 else if b = w.heap.size then 2 else if b = T then 3 else 6, ⟨fun b h1 _ => if_pos h1, .of_below hb⟩, hR.mono ?_, hT.mono ?_, (goesArrD goesCol).mono hc fun b hb _ => h6 b hb, OwnS.nil, OwnS.nil⟩
  · rintro b rfl _
    show (if w.heap.size < w.heap.size then 0 else if w.heap.size = w.heap.size then 2 else if w.heap.size = T then 3 else 6) = 2
    rw [if_neg (by omega), if_pos rfl]
  · rintro b rfl _
    show (if b < w.heap.size then 0 else if b = w.heap.size then 2 else if b = b then 3 else 6) = 3
    rw [if_neg (by omega), if_neg (by omega), if_pos rfl]
end
/-- the empty table told: what the result's box alone asks -/
theorem RG0 {w wx w' : World} (hb : Below w.heap.size w wx) (hg : wx.grownBy w' (some w.heap.size)) : Below w.heap.size w w' := Below.grown1 hb hg hb.size (Nat.le_refl _)
def RGetPost (w : World) (r : Except Int Tb) (e : Ending) (w' : World) : Prop := ∃ c q : Pl3, e = .returned (.tuple #[.agg (rTV (eV Tb.none r) c q).toArray, .int .i64 (eE r)]) ∧ RTbR 9223372036854775807 20 (fun b => w.heap.size ≤ b) w' c q (eV Tb.none r) ∧ Below w.heap.size w w'
set_option maxHeartbeats 8000000 in
set_option maxRecDepth 100000 in
theorem rGet10_any {S : Nat → Prop} {A : Option Addr} {m c0 : Nat} {bs : B} {w : World} (hs : Sl S w A m c0 bs) (hm : m ≤ 140737488355328) :
    Calls Tryd.prog 11 #[.slice A m c0] w fun e w' => RGetPost w (getTb bs) e w' := by
  have HS := Lib.hid hs.lt
  have hlb := Lib.hid hs.len
  clear hs
  obtain ⟨r, hr⟩ : ∃ r, r = getTb bs := ⟨_, rfl⟩
  rw [← hr]
  have HR := Lib.hid hr; clear hr
  obtain ⟨r1, hr1⟩ : ∃ z, colsR false bs = z := ⟨_, rfl⟩
  have HR1 := Lib.hid hr1; clear hr1
  have hR0 : Bx (fun b => b = w.heap.size) (w.alloc (.cells #[.int .i64 0, .slice none 0 0, .bool false, .int .i64 0, .string ⟨#[]⟩, .slice none 0 0] 38)) w.heap.size zR := Bx.alloc w zR.toArray 38 (S := fun b => b = w.heap.size) rfl rfl
  have HR0 := Lib.hid hR0; clear hR0
  go_enter Tryd.func11, Tryd.ntmps11
  go_wp2_with fail
  refine (rcols10_any (a := 0) (HS.out.fin ((Below.refl _ _).alloc (Nat.le_refl _) _)) hm (Nat.zero_le _) r1 (by rw [List.drop_zero]; exact HR1.out)).mono ?_
  rintro e w1 ⟨t0, l, a, c, q0, rfl, htr, hrows, hris, hat, hb1⟩
  have HRX := Lib.hid (HR0.out.after hb1)
  have HB1 : Hid (Below w.heap.size w w1) := Lib.hid (((Below.refl w.heap.size w).alloc (Nat.le_refl _) (.cells #[.int .i64 0, .slice none 0 0, .bool false, .int .i64 0, .string ⟨#[]⟩, .slice none 0 0] 38)).trans (hb1.mono (by simp)))
  obtain ⟨N, hN⟩ : ∃ N : Nat, t0.count = (N : Int) := ⟨t0.count.toNat, by have := htr.n0; omega⟩
  have hN4 : N ≤ 4096 := by have := htr.n1; omega
  obtain ⟨cnt, cs, mo, sv, rows⟩ := t0
  dsimp only at hN hrows
  subst hN hrows
  have HC1 : Hid (Arr 8 (colP 9223372036854775807 20 (fun b => w.heap.size < b ∧ b < w1.heap.size) w1) (fun b => w.heap.size < b ∧ b < w1.heap.size) w1 c.1 c.2.1 c.2.2 cs) := Lib.hid ((goesArrD goesCol).mono htr.cl fun b hb hlt => ⟨by have hb : (w.alloc _).heap.size ≤ b := hb; simp at hb; omega, hlt⟩)
  have hz1 : w.heap.size < w1.heap.size := by have := hb1.size; simp at this; omega
  have HIS := Lib.hid hris; clear hris
  have HAT := Lib.hid hat; clear hat
  clear htr hb1 HR0
  go_upto_region 2 with (first | (refine wpList_store_newB (by rfl) 38 _ _ (by rfl) _ _ _ _ (by rfl) (by rfl) (by simp) (by rfl) (by kernel_rfl) (by rfl) (by rfl) ?_; intro w2 hb2 hz2 hx2))
  obtain ⟨T, hT⟩ : ∃ T, T = w1.heap.size := ⟨_, rfl⟩
  rw [← hT]
  obtain ⟨ρ2, i2⟩ := RG.start (HRX.out.after hb2) (HB1.out.trans (hb2.mono HB1.out.size)) (hT ▸ hx2) (by omega) ((goesArrD goesCol).after HC1.out hb2) (fun b hb => ⟨hb.1, by omega⟩)
  have I2 : Hid (RG w w.heap.size T [.int .i64 (N : Int), .slice c.1 c.2.1 c.2.2, .bool mo, .int .i64 sv.kind, .string (str sv.bytes), .slice none 0 0] c cs Pl3.none [] Pl3.none [] ρ2 w2) := Lib.hid i2
  clear i2 hx2 hb2 hz2 hT hz1 HRX HC1 HB1
  cases r1 with
  | error e =>
    have hne : (e != 0) = true := by simpa using nzCols false _ _ HR1.out
    have HE : Hid (r = .error e) := Lib.hid (HR.out.trans (getTb_e1 HR1.out))
    simp only [rerr_error]
    have rl := I2.out.r.lt
    go_wp2_with (first | (refine wpList_built (by rfl) 38 _ (by rfl) zR.toArray (by kernel_rfl) ?_) | (refine wpList_storeB I2.out.r (by rfl) 38 _ _ (by rfl) 0 (zR) (by rfl) (by rfl) (by kernel_rfl) (by show 0 + 6 ≤ 6; decide) (by rfl) ?_; intro wz hxz hgz; have HXZ : Hid (Bx (Rl ρ2 2) wz w.heap.size (zR)) := Lib.hid hxz; have HGZ := Lib.hid hgz; clear hxz hgz))
    refine bodyPost_ret (results_box (vs := zR) rfl HXZ.out (by rfl) (by rfl) _ Tryd.underlying38 rfl (by kernel_rfl)) rfl ?_
    rw [HE.out]
    exact ⟨Pl3.none, Pl3.none, rfl, RTbR.none, (I2.out.fin HGZ.out).1⟩
  | ok p =>
    obtain ⟨⟨t1, l1⟩, b1⟩ := p
    obtain ⟨rfl, rfl⟩ := Prod.mk.inj (HIS.out (t1, l1) b1 rfl)
    clear HIS
    have hq0m : q0 ≤ m := by have := HAT.out.le; have := hlb.out; omega
    have HD0 := Lib.hid HAT.out.drop
    clear HAT
    simp only [rerr_ok]
    obtain ⟨r2, hr2⟩ : ∃ z, getCnt b1 = z := ⟨_, rfl⟩
    have HR2 := Lib.hid hr2; clear hr2
    go_wp2_with fail
    refine (rcnt10_any (HS.out.fin I2.out.bs.below) hq0m r2 (by rw [HD0.out]; exact HR2.out)).mono ?_
    rintro e w3 ⟨q1, rfl, hq1, hb3⟩
    obtain ⟨ρ3, hx3, i3⟩ := I2.out.belowE hb3 6
    have I3 := Lib.hid i3
    clear i3 hx3 hb3 I2
    have HQ1 := Lib.hid hq1; clear hq1
    cases r2 with
    | error e =>
      have hne : (e != 0) = true := by simpa using nzCnt _ _ HR2.out
      have HE : Hid (r = .error e) := Lib.hid (HR.out.trans (getTb_e2 HR1.out HR2.out))
      simp only [rval_error, rerr_error]
      have rl := I3.out.r.lt
      go_wp2_with (first | (refine wpList_built (by rfl) 38 _ (by rfl) zR.toArray (by kernel_rfl) ?_) | (refine wpList_storeB I3.out.r (by rfl) 38 _ _ (by rfl) 0 (zR) (by rfl) (by rfl) (by kernel_rfl) (by show 0 + 6 ≤ 6; decide) (by rfl) ?_; intro wz hxz hgz; have HXZ : Hid (Bx (Rl ρ3 2) wz w.heap.size (zR)) := Lib.hid hxz; have HGZ := Lib.hid hgz; clear hxz hgz))
      refine bodyPost_ret (results_box (vs := zR) rfl HXZ.out (by rfl) (by rfl) _ Tryd.underlying38 rfl (by kernel_rfl)) rfl ?_
      rw [HE.out]
      exact ⟨Pl3.none, Pl3.none, rfl, RTbR.none, (I3.out.fin HGZ.out).1⟩
    | ok p =>
      obtain ⟨n, b2⟩ := p
      have hn4 : n ≤ 4096 := by have := cnt_le (.ok b1); rw [gV_ok HR2.out] at this; exact this
      have hq1m : q1 ≤ m := by have := HQ1.out.le; have := hlb.out; omega
      have HD1 := Lib.hid HQ1.out.drop
      clear HQ1
      have HE3 : Hid (∀ e, rowsT N n b2 = .error e → r = .error e) := Lib.hid fun e h => HR.out.trans (getTb_e3 HR1.out HR2.out h)
      have HO3 : Hid (∀ rs b3, rowsT N n b2 = .ok (rs, b3) → r = if b3.length = 0 then .ok ⟨N, cs, mo, sv, rs⟩ else .error 23) := Lib.hid fun rs b3 h => HR.out.trans (getTb_o HR1.out HR2.out h)
      clear HR HR1 HR2
      simp only [rval_ok, rerr_ok]
      go_wp2_with fail
      go_loopw [6, 7, 9] (fun tp er i wr => ∃ ρ k q rs qq bk, k ≤ n ∧ tp = .int .i64 ((qq : Nat) : Int) ∧ er = .int .i64 0 ∧ i = .int .i64 ((k : Nat) : Int) ∧ qq ≤ m ∧ Hid (bs.drop qq = bk) ∧ Hid (RG w w.heap.size T [.int .i64 (N : Int), .slice c.1 c.2.1 c.2.2, .bool mo, .int .i64 sv.kind, .string (str sv.bytes), .slice q.1 q.2.1 q.2.2] c cs q rs Pl3.none [] ρ wr) ∧ Hid (rs.length = k) ∧ Hid (getsM (getsM valT N) k b2 = .ok (rs, bk))) (fun _ _ i _ => n - (intOf i).toNat)
      case atStart => exact ⟨ρ3, 0, Pl3.none, [], q1, b2, by omega, rfl, rfl, rfl, hq1m, HD1, I3, rfl, rfl⟩
      case round =>
        clear I3 hq1m HD1
        obtain ⟨ρ, k, q, rs, qq, bk, hk, rfl, rfl, rfl, hqm, HDk, I4, HL, HG⟩ := hrel
        by_cases hlt : k < n
        · obtain ⟨wo, hwo⟩ : ∃ wo, wo = wr := ⟨_, rfl⟩
          subst hwo
          go_wp2_with fail
          go_loopw [6, 7, 10, 11] (fun tp er rv j wr => ∃ ρ k2 u us qq2 bk2, k2 ≤ N ∧ tp = .int .i64 ((qq2 : Nat) : Int) ∧ er = .int .i64 0 ∧ rv = .slice u.1 u.2.1 u.2.2 ∧ j = .int .i64 ((k2 : Nat) : Int) ∧ qq2 ≤ m ∧ Hid (bs.drop qq2 = bk2) ∧ Hid (RG w w.heap.size T [.int .i64 (N : Int), .slice c.1 c.2.1 c.2.2, .bool mo, .int .i64 sv.kind, .string (str sv.bytes), .slice q.1 q.2.1 q.2.2] c cs q rs u us ρ wr) ∧ Hid (us.length = k2) ∧ Hid (getsM valT k2 bk = .ok (us, bk2))) (fun _ _ _ j _ => N - (intOf j).toNat)
          case atStart => exact ⟨ρ, 0, Pl3.none, [], qq, bk, by omega, rfl, rfl, rfl, rfl, hqm, HDk, I4, rfl, rfl⟩
          case round =>
            clear I4 hqm HDk
            obtain ⟨ρ5, k2, u, us, qq2, bk2, hk2, rfl, rfl, rfl, rfl, hqm, HDk, I5, HL2, HG2⟩ := hrel
            have tn := I5.out.t.c 0 _ rfl
            have tl5 := I5.out.t.lt
            by_cases hlt2 : k2 < N
            · obtain ⟨r5, hr5⟩ : ∃ z, getValue bk2 = z := ⟨_, rfl⟩
              have HRV := Lib.hid hr5; clear hr5
              have hba : Below wr.heap.size wr (wr.alloc (.cells #[.int .i64 0, .string ⟨#[]⟩] 35)) := (Below.refl _ _).alloc (Nat.le_refl _) _
              obtain ⟨ρ6, hx6, i6⟩ := I5.out.belowE hba 7
              have HV6 : Hid (Bx (Rl ρ6 7) (wr.alloc (.cells #[.int .i64 0, .string ⟨#[]⟩] 35)) wr.heap.size [.int .i64 0, .string ⟨#[]⟩]) := Lib.hid (Bx.alloc wr #[.int .i64 0, .string ⟨#[]⟩] 35 (by show ρ6 _ = 7; rw [hx6]; exact xt_ge (Nat.le_refl _)))
              have I6 := Lib.hid i6
              clear i6 hx6 hba
              go_wp2_with fail
              refine (rgetValue_any (HS.out.fin I6.out.bs.below) hm hqm r5 (by rw [HDk.out]; exact HRV.out)).mono ?_
              rintro e w7 ⟨q3, rfl, hq3, hb7⟩
              obtain ⟨ρ7, hx7, i7⟩ := I6.out.belowE hb7 6
              have I7 := Lib.hid i7
              have HV7 := Lib.hid (HV6.out.stepx (Fr.of_below hb7 : Fr (Rl ρ6 10) _ w7) hx7)
              clear i7 hx7 hb7 I6 HV6 I5 tn tl5
              have HQ3 := Lib.hid hq3; clear hq3
              obtain ⟨v, hv⟩ : ∃ v, v = rval Val.none r5 := ⟨_, rfl⟩
              have hvl : v.bytes.length ≤ 9223372036854775807 := by
                rw [hv]
                cases r5 with
                | error e => exact Nat.zero_le _
                | ok p =>
                  have h1 := gv_len10 HRV.out
                  have h2 := congrArg List.length HDk.out
                  rw [List.length_drop] at h2
                  have := hlb.out
                  simp only [rval_ok]
                  omega
              rw [← hv]
              have HVV := Lib.hid hv; clear hv
              go_upto_region 16 with (first | (refine wpList_storeB HV7.out (by rfl) 35 _ _ (by rfl) 0 [.int .i64 v.kind, .string (str v.bytes)] (by rfl) (by rfl) (by kernel_rfl) (by show 0 + 2 ≤ 2; decide) (by rfl) ?_; intro w8 hx8 hg8))
              have hf8 : Fr (Rl ρ7 7) w7 w8 := Fr.of_grown hg8 fun b e => by injection e with e; subst e; exact HV7.out.role
              have I8 := Lib.hid (I7.out.stay hf8)
              have HV8 : Hid (Bx (Rl ρ7 7) w8 wr.heap.size [.int .i64 v.kind, .string (str v.bytes)]) := Lib.hid hx8
              clear hx8 hg8 hf8 I7 HV7
              cases r5 with
              | error e =>
                have hne : (e != 0) = true := by simpa using nzValue _ _ HRV.out
                have HE : Hid (r = .error e) := Lib.hid (HE3.out e (getsM_stop hlt HG.out (getsM_stop hlt2 HG2.out (valT_e HRV.out))))
                simp only [rerr_error]
                have rl := I8.out.r.lt
                go_wp2_with (first | (refine wpList_built (by rfl) 38 _ (by rfl) zR.toArray (by kernel_rfl) ?_) | (refine wpList_storeB I8.out.r (by rfl) 38 _ _ (by rfl) 0 (zR) (by rfl) (by rfl) (by kernel_rfl) (by show 0 + 6 ≤ 6; decide) (by rfl) ?_; intro wz hxz hgz; have HXZ : Hid (Bx (Rl ρ7 2) wz w.heap.size (zR)) := Lib.hid hxz; have HGZ := Lib.hid hgz; clear hxz hgz))
                refine bodyPost_ret (results_box (vs := zR) rfl HXZ.out (by rfl) (by rfl) _ Tryd.underlying38 rfl (by kernel_rfl)) rfl ?_
                rw [HE.out]
                exact ⟨Pl3.none, Pl3.none, rfl, RTbR.none, (I8.out.fin HGZ.out).1⟩
              | ok p =>
                obtain ⟨v2, bk3⟩ := p
                have hq3m : q3 ≤ m := by have := HQ3.out.le; have := hlb.out; omega
                have HD3 := Lib.hid HQ3.out.drop
                clear HQ3
                simp only [rerr_ok]
                obtain rfl : v = v2 := HVV.out
                have vc0 := HV8.out.c 0 _ rfl
                have vl8 := HV8.out.lt
                by_cases hv1 : v.kind = 1
                · have hkb : (v.kind == 1) = true := by rw [hv1]; rfl
                  have HE : Hid (r = .error 11) := Lib.hid (HE3.out 11 (getsM_stop hlt HG.out (getsM_stop hlt2 HG2.out (valT_1 HRV.out hv1))))
                  clear hv1
                  have rl := I8.out.r.lt
                  go_wp2_with (first | (refine wpList_built (by rfl) 38 _ (by rfl) zR.toArray (by kernel_rfl) ?_) | (refine wpList_storeB I8.out.r (by rfl) 38 _ _ (by rfl) 0 (zR) (by rfl) (by rfl) (by kernel_rfl) (by show 0 + 6 ≤ 6; decide) (by rfl) ?_; intro wz hxz hgz; have HXZ : Hid (Bx (Rl ρ7 2) wz w.heap.size (zR)) := Lib.hid hxz; have HGZ := Lib.hid hgz; clear hxz hgz))
                  refine bodyPost_ret (results_box (vs := zR) rfl HXZ.out (by rfl) (by rfl) _ Tryd.underlying38 rfl (by kernel_rfl)) rfl ?_
                  rw [HE.out]
                  exact ⟨Pl3.none, Pl3.none, rfl, RTbR.none, (I8.out.fin HGZ.out).1⟩
                · have hkb : (v.kind == 1) = false := beq_eq_false_iff_ne.2 hv1
                  have HG3 := Lib.hid (getsM_snoc HG2.out (valT_o HRV.out hv1))
                  clear hv1
                  have hul : u.2.1 ≤ 4096 := by have := I8.out.us.len (by decide); have := HL2.out; omega
                  have HBA := Lib.hid ((Below.refl w8.heap.size w8).alloc (Nat.le_refl _) (.cells #[.int .i64 v.kind, .string (str v.bytes)] 35))
                  have IA := Lib.hid (I8.out.after HBA.out)
                  go_wp2_with (first | (refine wpList_loadB HV8.out (by rfl) 35 _ (by rfl) (by rfl) _ Tryd.underlying35 rfl (by kernel_rfl) ?_) | (at_builtin; go_loud (refine wpList_appX rfl tyV10 _ _ rfl (ρ := ρ7) (r := 5) _ _ _ us rfl IA.out.us _ _ _ _ [v] rfl (arr_lit (P := vRf) _ #[.int .i64 v.kind, .string (str v.bytes)] v rfl ⟨rfl, hvl⟩ (by simp)) (fun _ _ h => vRf_one _ _ h) (fun _ _ _ h => h) (by omega) (by unfold maxLen; omega) ?_); intro A9 m9 d9 w9 ρ9 hx9 hown9 hf9; have I9 := Lib.hid (IA.out.app5 (u' := (A9, m9, d9)) hf9 hx9 hown9); clear hx9 hown9 hf9))
                  exact ⟨⟨ρ9, k2 + 1, (A9, m9, d9), us ++ [v], q3, bk3, by omega, rfl, rfl, rfl, by go_num, hq3m, HD3, I9, by rw [List.length_append, HL2.out]; rfl, HG3⟩, by simp [intOf]; omega⟩
            · obtain rfl : N = k2 := by omega
              obtain ⟨ρ6, i6, hu6⟩ := I5.out.merge
              have HU := Lib.hid hu6
              have I6 := Lib.hid i6
              clear i6 hu6 I5
              have hql : q.2.1 ≤ 4096 := by have := I6.out.rw.len (by decide); have := HL.out; omega
              have HBA := Lib.hid ((Below.refl wr.heap.size wr).alloc (Nat.le_refl _) (.cells #[.slice u.1 u.2.1 u.2.2] 84))
              have IA := Lib.hid (I6.out.after HBA.out)
              have HUA := Lib.hid (goesArr.after HU.out HBA.out)
              have t5 := I6.out.t.c 5 _ rfl
              have tl6 := I6.out.t.lt
              go_wp2_with (first | (at_builtin; go_loud (refine wpList_appX rfl tyR10 _ _ rfl (ρ := ρ6) (r := 4) _ _ _ rs rfl IA.out.rw _ _ _ _ [us] rfl (arr_lit (P := rrowP (Rl ρ6 6) _) _ #[.slice u.1 u.2.1 u.2.2] us rfl ⟨u.1, u.2.1, u.2.2, rfl, HUA.out⟩ (by simp)) (fun _ _ h => rrowP_one _ _ h) (fun _ _ _ h => h) (by omega) (by unfold maxLen; omega) ?_); intro A9 m9 d9 w9 ρ9 hx9 hown9 hf9; have I9 := Lib.hid (IA.out.app4 (q' := (A9, m9, d9)) hf9 hx9 hown9); clear hx9 hown9 hf9; have t5b := I9.out.t.c 5 _ rfl; have kt5 := I9.out.t.fr 5; have tl9 := I9.out.t.lt))
              have I10 := Lib.hid (I9.out.put 5 (.slice A9 m9 d9) (by show 5 < 6; decide))
              exact ⟨⟨ρ9, k + 1, (A9, m9, d9), rs ++ [us], qq2, bk2, by omega, rfl, rfl, by go_num, hqm, HDk, I10, by rw [List.length_append, HL.out]; rfl, getsM_snoc HG.out HG2.out⟩, by simp [intOf]; omega⟩
        · obtain rfl : n = k := by omega
          have HF := Lib.hid (HO3.out rs bk HG.out)
          by_cases hqe : qq = m
          · subst hqe
            have HE : Hid (r = .ok ⟨N, cs, mo, sv, rs⟩) := Lib.hid (by rw [HF.out, if_pos]; rw [← HDk.out, List.length_drop]; have := hlb.out; omega)
            have tl4 := I4.out.t.lt
            have rl := I4.out.r.lt
            go_wp2_with (first | (refine wpList_loadB I4.out.t (by rfl) 38 _ (by rfl) (by rfl) _ Tryd.underlying38 rfl (by kernel_rfl) ?_) | (refine wpList_storeB I4.out.r (by rfl) 38 _ _ (by rfl) 0 ([.int .i64 (N : Int), .slice c.1 c.2.1 c.2.2, .bool mo, .int .i64 sv.kind, .string (str sv.bytes), .slice q.1 q.2.1 q.2.2]) (by rfl) (by rfl) (by kernel_rfl) (by show 0 + 6 ≤ 6; decide) (by rfl) ?_; intro wz hxz hgz; have HXZ : Hid (Bx (Rl ρ 2) wz w.heap.size ([.int .i64 (N : Int), .slice c.1 c.2.1 c.2.2, .bool mo, .int .i64 sv.kind, .string (str sv.bytes), .slice q.1 q.2.1 q.2.2])) := Lib.hid hxz; have HGZ := Lib.hid hgz; clear hxz hgz))
            refine bodyPost_ret (results_box (vs := [.int .i64 (N : Int), .slice c.1 c.2.1 c.2.2, .bool mo, .int .i64 sv.kind, .string (str sv.bytes), .slice q.1 q.2.1 q.2.2]) rfl HXZ.out (by rfl) (by rfl) _ Tryd.underlying38 rfl (by kernel_rfl)) rfl ?_
            have hfin := I4.out.fin HGZ.out
            rw [HE.out]
            exact ⟨c, q, rfl, ⟨hfin.2.1, hfin.2.2⟩, hfin.1⟩
          · have HE : Hid (r = .error 23) := Lib.hid (by rw [HF.out, if_neg]; rw [← HDk.out, List.length_drop]; have := hlb.out; omega)
            have hqb : ((qq : Int) != (m : Int)) = true := by simp; omega
            clear hqe
            have rl := I4.out.r.lt
            go_wp2_with (first | (refine wpList_built (by rfl) 38 _ (by rfl) zR.toArray (by kernel_rfl) ?_) | (refine wpList_storeB I4.out.r (by rfl) 38 _ _ (by rfl) 0 (zR) (by rfl) (by rfl) (by kernel_rfl) (by show 0 + 6 ≤ 6; decide) (by rfl) ?_; intro wz hxz hgz; have HXZ : Hid (Bx (Rl ρ 2) wz w.heap.size (zR)) := Lib.hid hxz; have HGZ := Lib.hid hgz; clear hxz hgz))
            refine bodyPost_ret (results_box (vs := zR) rfl HXZ.out (by rfl) (by rfl) _ Tryd.underlying38 rfl (by kernel_rfl)) rfl ?_
            rw [HE.out]
            exact ⟨Pl3.none, Pl3.none, rfl, RTbR.none, (I4.out.fin HGZ.out).1⟩
end Go.Proofs.Sb
