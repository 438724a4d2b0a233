/- Walk over signalboxlaw10.tableOf: a table as the reference has it. Conditions: up to 4096 of each. -/
import Derived.Test.YtenhgcgdhaegaaaDoorTrd
import Derived.Test.YtenhgcgdhaegaaaDoorTgb
set_option linter.unusedVariables false
set_option linter.unusedSimpArgs false
namespace Sb
/-- how many of each there may be -/
structure TbSm (t : Tb) : Prop where
  cols : t.cols.length ≤ 4096
  rows : t.rows.length ≤ 4096
  each : ∀ x ∈ t.rows, x.length ≤ 4096
theorem take_snoc {α : Type} {l : List α} {k : Nat} {x : α} (h : l[k]? = some x) : l.take (k + 1) = l.take k ++ [x] := by rw [List.take_add_one, h]; rfl
end Sb
namespace Go.Proofs.Sb
open Go.RowKit _root_.Sb
/-- a function whose one result lies in a box -/
theorem results_b1 {P : Program} {w : World} {S : Nat → Prop} {fn : Func} {p : Tmp} {ty : TypeId} (h : fn.results = #[.cell p ty]) {X : Nat} {vs : List Value} (hB : Bx S w X vs) {tmps : Array Value} (hp : tmps.getD p undef = .pointer (some ⟨X, 0, none⟩)) (d : TypeDesc)
    (hu : P.underlying ty = some d) (hd : d.isRow = true) (hi : (P.info? ty).map (·.size) = some vs.length) : (results fn tmps).run P w = .ok (.agg vs.toArray) w := by
  have h1 := run_loadVar_mid (P := P) w X 0 ty vs d hB.range hu hd hi
  have hp' : tmps[p]?.getD undef = .pointer (some ⟨X, 0, none⟩) := by simpa using hp
  simp [results, h, hp', asAddr, h1]
/-- along the walk: the argument's box, the result's, the table's; columns, rows, the row that is made -/
structure TO (M dp : Nat) (w : World) (I R T : Nat) (vi vs : List Value) (c : Pl3) (cs : List Col) (q : Pl3) (rs : List (List Val)) (u : Pl3) (us : List Val) (ρ : Nat → Nat) (wx : World) : Prop where
  bs : Bs ρ (fun _ => False) w wx
  i : Bx (Rl ρ 1) wx I vi
  r : Bx (Rl ρ 2) wx R zR
  t : Bx (Rl ρ 3) wx T vs
  cl : OwnS 87 8 (colP M dp (Rl ρ 0) wx) (Rl ρ 5) wx c.1 c.2.1 c.2.2 cs
  rw : OwnS 84 1 (rrowP (Rl ρ 6) wx) (Rl ρ 4) wx q.1 q.2.1 q.2.2 rs
  us : OwnS 35 2 vRf (Rl ρ 7) wx u.1 u.2.1 u.2.2 us
section
variable {M dp : Nat} {w wx w' : World} {I R T : Nat} {vi vs : List Value} {c q u : Pl3} {cs : List Col} {rs : List (List Val)} {us : List Val} {ρ ρ' : Nat → Nat}
theorem TO.after (h : TO M dp w I R T vi vs c cs q rs u us ρ wx) (hb : Below wx.heap.size wx w') : TO M dp w I R T vi vs c cs q rs u us ρ w' :=
  ⟨h.bs.after hb, h.i.after hb, h.r.after hb, h.t.after hb, (h.cl.after hb).deepA (Pf := colP M dp) goesCol hb, (h.rw.after hb).deepA (Pf := rrowP) goesRR hb, h.us.after hb⟩
theorem TO.belowE (h : TO M dp w I R T vi vs c cs q rs u us ρ wx) (hb : Below wx.heap.size wx w') (t : Nat) : ∃ ρ', ρ' = xt ρ wx.heap.size t ∧ TO M dp w I R T vi vs c cs q rs u us ρ' w' :=
  have hf : Fr (Rl ρ 10) wx w' := .of_below hb
  ⟨_, rfl, h.bs.stepx hf rfl, h.i.stepx hf rfl, h.r.stepx hf rfl, h.t.stepx hf rfl, (h.cl.stepx hf rfl).deepx (Pf := colP M dp) goesCol hf rfl, (h.rw.stepx hf rfl).deepx (Pf := rrowP) goesRR hf rfl, h.us.stepx hf rfl⟩
theorem TO.app5 (h : TO M dp w I R T vi vs c cs q rs u us ρ wx) {c' : Pl3} {cs' : List Col} (hf : Fr (Rl ρ 5) wx w') (hx : ρ' = xt ρ wx.heap.size 5) (hp : OwnS 87 8 (colP M dp (Rl ρ 0) wx) (Rl ρ' 5) w' c'.1 c'.2.1 c'.2.2 cs') : TO M dp w I R T vi vs c' cs' q rs u us ρ' w' :=
  ⟨h.bs.stepx hf hx, h.i.stepx hf hx, h.r.stepx hf hx, h.t.stepx hf hx, hp.deepx (Pf := colP M dp) goesCol hf hx, (h.rw.stepx hf hx).deepx (Pf := rrowP) goesRR hf hx, h.us.stepx hf hx⟩
theorem TO.app4 (h : TO M dp w I R T vi vs c cs q rs u us ρ wx) {q' : Pl3} {rs' : List (List Val)} (hf : Fr (Rl ρ 4) wx w') (hx : ρ' = xt ρ wx.heap.size 4) (hp : OwnS 84 1 (rrowP (Rl ρ 6) wx) (Rl ρ' 4) w' q'.1 q'.2.1 q'.2.2 rs') : TO M dp w I R T vi vs c cs q' rs' u us ρ' w' :=
  ⟨h.bs.stepx hf hx, h.i.stepx hf hx, h.r.stepx hf hx, h.t.stepx hf hx, (h.cl.stepx hf hx).deepx (Pf := colP M dp) goesCol hf hx, hp.deepx (Pf := rrowP) goesRR hf hx, h.us.stepx hf hx⟩
theorem TO.app7 (h : TO M dp w I R T vi vs c cs q rs u us ρ wx) {u' : Pl3} {us' : List Val} (hf : Fr (Rl ρ 7) wx w') (hx : ρ' = xt ρ wx.heap.size 7) (hp : OwnS 35 2 vRf (Rl ρ' 7) w' u'.1 u'.2.1 u'.2.2 us') : TO M dp w I R T vi vs c cs q rs u' us' ρ' w' :=
  ⟨h.bs.stepx hf hx, h.i.stepx hf hx, h.r.stepx hf hx, h.t.stepx hf hx, (h.cl.stepx hf hx).deepx (Pf := colP M dp) goesCol hf hx, (h.rw.stepx hf hx).deepx (Pf := rrowP) goesRR hf hx, hp⟩
theorem TO.put (h : TO M dp w I R T vi vs c cs q rs u us ρ wx) (i : Nat) (v : Value) (hi : i < vs.length) : TO M dp w I R T vi (vs.set i v) c cs q rs u us ρ (wx.setCell ⟨T, i, none⟩ v) :=
  have hf : Fr (Rl ρ 3) wx (wx.setCell ⟨T, i, none⟩ v) := h.t.frPut i v
  ⟨h.bs.stay hf, h.i.stay hf, h.r.stay hf, h.t.put i v hi, (h.cl.stay hf).deepS (Pf := colP M dp) goesCol hf, (h.rw.stay hf).deepS (Pf := rrowP) goesRR hf, h.us.stay hf⟩
theorem TO.merge (h : TO M dp w I R T vi vs c cs q rs u us ρ wx) : ∃ ρ', TO M dp w I R T vi vs c cs q rs Pl3.none [] ρ' wx ∧ Arr 2 vRf (Rl ρ' 6) wx u.1 u.2.1 u.2.2 us := by
  refine ⟨fun b => if ρ b = 7 then 6 else ρ b, ?_⟩
  have hk : ∀ k, k ≠ 7 → ∀ b, ρ b = k → (if ρ b = 7 then 6 else ρ b) = k := fun k h5 b e => by rw [if_neg (by omega)]; exact e
  have h6 : ∀ b, ρ b = 7 → (if ρ b = 7 then 6 else ρ b) = 6 := fun b e => by rw [if_pos e]
  refine ⟨⟨⟨fun b h1 h2 => hk 0 (by decide) b (h.bs.role b h1 h2), h.bs.fr⟩, h.i.mono fun b e _ => hk 1 (by decide) b e, h.r.mono fun b e _ => hk 2 (by decide) b e, h.t.mono fun b e _ => hk 3 (by decide) b e, ?_, ?_, OwnS.nil⟩, ?_⟩
  · exact (h.cl.mono fun b e _ => hk 5 (by decide) b e).imp fun x _ v hp => (goesCol x v).mono hp fun b e _ => hk 0 (by decide) b e
  · exact (h.rw.mono fun b e _ => hk 4 (by decide) b e).imp fun x _ v hp => (goesRR x v).mono hp fun b e _ => hk 6 (by decide) b e
  · exact (h.us.arr (by decide)).mono fun b e _ => h6 b e
theorem TO.fin (h : TO M dp w I R T vi vs c cs q rs u us ρ wx) (hg : wx.grownBy w' (some R)) (n : Int) (mo : Bool) (sv : Val) : Below w.heap.size w w' ∧ RTbR M dp (fun _ => True) w' c q ⟨n, cs, mo, sv, rs⟩ := by
  have hf : Fr (Rl ρ 2) wx w' := Fr.of_grown hg fun b e => by injection e with e; subst e; exact h.r.role
  exact ⟨(h.bs.stay hf).below, ((((h.cl.stay hf).deepS (Pf := colP M dp) goesCol hf).arr (by decide)).mono fun _ _ _ => trivial).imp fun x _ v hp => (goesCol x v).mono hp fun _ _ _ => trivial, ((((h.rw.stay hf).deepS (Pf := rrowP) goesRR hf).arr (by decide)).mono fun _ _ _ => trivial).imp fun x _ v hp => (goesRR x v).mono hp fun _ _ _ => trivial⟩
theorem TO.start (hI : Bx (fun b => b = w.heap.size) wx w.heap.size vi) (hR : Bx (fun b => b = w.heap.size + 1) wx (w.heap.size + 1) zR) (hT : Bx (fun b => b = T) wx T vs) (hTw : w.heap.size + 1 < T) (hb : Below w.heap.size w wx) : ∃ ρ, TO M dp w w.heap.size (w.heap.size + 1) T vi vs Pl3.none [] Pl3.none [] Pl3.none [] ρ wx := by
  refine ⟨fun b => if b < w.heap.size then 0 else if b = w.heap.size then 1 else if b = w.heap.size + 1 then 2 else if b = T then 3 else 6, ⟨fun b h _ => if_pos h, .of_below hb⟩, hI.mono ?_, hR.mono ?_, hT.mono ?_, OwnS.nil, OwnS.nil, OwnS.nil⟩
  · rintro b rfl _
    show (if w.heap.size < w.heap.size then 0 else if w.heap.size = w.heap.size then 1 else if w.heap.size = w.heap.size + 1 then 2 else if w.heap.size = T then 3 else 6) = 1
    rw [if_neg (by omega), if_pos rfl]
  · rintro b rfl _
    show (if w.heap.size + 1 < w.heap.size then 0 else if w.heap.size + 1 = w.heap.size then 1 else if w.heap.size + 1 = w.heap.size + 1 then 2 else if w.heap.size + 1 = T then 3 else 6) = 2
    rw [if_neg (by omega), if_neg (by omega), if_pos rfl]
  · rintro b rfl _
    show (if b < w.heap.size then 0 else if b = w.heap.size then 1 else if b = w.heap.size + 1 then 2 else if b = b then 3 else 6) = 3
    rw [if_neg (by omega), if_neg (by omega), if_neg (by omega), if_pos rfl]
end
/-- what a region that makes a value may turn -/
abbrev G7 (N : Nat) (ρ : Nat → Nat) : Nat → Prop := fun b => N ≤ b ∨ ρ b = 7
theorem Fr.i7 {N : Nat} {ρ : Nat → Nat} {w w' : World} (h : Fr (Rl ρ 7) w w') : Fr (G7 N ρ) w w' := h.imp fun b _ e => .inr e
set_option maxHeartbeats 8000000 in
set_option maxRecDepth 100000 in
theorem tableOf_any {M dp : Nat} {S : Nat → Prop} {w : World} {t : Tb} {cT dT qT : Pl3} (ht : TbR M dp S w cT dT qT t) (hsm : TbSm t) :
    Calls Tryd.prog 13 #[.agg (tabV t cT dT qT).toArray] w fun e w' => ∃ c q : Pl3, e = .returned (.agg (rTV t c q).toArray) ∧ RTbR M dp (fun _ => True) w' c q t ∧ Below w.heap.size w w' := by
  have HT := Lib.hid (goesTb.mono (S' := fun b => b < w.heap.size) ht fun b _ h => h); clear ht
  have HSM := Lib.hid hsm; clear hsm
  obtain ⟨cA, cn, cc⟩ := cT
  obtain ⟨dA, dn, dc⟩ := dT
  obtain ⟨qA, qn, qc⟩ := qT
  have HCL := Lib.hid HT.out.cl.len
  have HQL := Lib.hid HT.out.rw.len
  dsimp only at HCL HQL
  have hcn : cn ≤ 4096 := by have := HCL.out; have := HSM.out.cols; omega
  have hqn : qn ≤ 4096 := by have := HQL.out; have := HSM.out.rows; omega
  have hcc1 := HT.out.cl.cap
  have hcc2 := HT.out.cl.capMax
  have hqc1 := HT.out.rw.cap
  have hqc2 := HT.out.rw.capMax
  dsimp only at hcc1 hcc2 hqc1 hqc2
  obtain ⟨vi, hvi⟩ : ∃ vi, vi = tabV t (cA, cn, cc) (dA, dn, dc) (qA, qn, qc) := ⟨_, rfl⟩
  rw [← hvi]
  have HVI := Lib.hid hvi; clear hvi
  go_enter Tryd.func13, Tryd.ntmps13
  go_upto_region 1 with fail
  obtain ⟨w2, hw2⟩ : ∃ w2, w2 = (w.alloc (.cells vi.toArray 29)).alloc (.cells #[.int .i64 0, .slice none 0 0, .bool false, .int .i64 0, .string ⟨#[]⟩, .slice none 0 0] 38) := ⟨_, rfl⟩
  rw [← hw2]
  have HB2 : Hid (Below w.heap.size w w2) := Lib.hid (by rw [hw2]; exact ((Below.refl _ _).alloc (Nat.le_refl _) _).alloc (by simp) _)
  have HI2 : Hid (Bx (fun b => b = w.heap.size) w2 w.heap.size vi) := Lib.hid (by
    rw [hw2]
    exact goesBx.after (Bx.alloc w vi.toArray 29 (S := fun b => b = w.heap.size) rfl rfl) ((Below.refl _ _).alloc (Nat.le_refl _) _))
  have HR2 : Hid (Bx (fun b => b = w.heap.size + 1) w2 (w.heap.size + 1) zR) := Lib.hid (by
    rw [hw2]
    exact Bx.alloc (w.alloc _) zR.toArray 38 (S := fun b => b = w.heap.size + 1) (by simp) (by simp))
  clear hw2
  have hz2 : w.heap.size + 1 < w2.heap.size := HR2.out.lt
  have hcv := conv_sl (goesSl.after HT.out.st HB2.out)
  have i0 := HI2.out.c 0 (.int .i64 t.count) (by rw [HVI.out]; rfl)
  have i2 := HI2.out.c 2 (.bool t.more) (by rw [HVI.out]; rfl)
  have i3 := HI2.out.c 3 (.int .i64 t.state.kind) (by rw [HVI.out]; rfl)
  have i4 := HI2.out.c 4 (.slice dA dn dc) (by rw [HVI.out]; rfl)
  go_upto_region 2 with (first | (refine wpList_store_newB (by rfl) 38 _ _ (by rfl) _ _ _ _ (by rfl) (by rfl) (by simp) (by rfl) (by kernel_rfl) (by rfl) (by rfl) ?_; intro w3 hb3 hz3 hx3))
  obtain ⟨T, hT⟩ : ∃ T, T = w2.heap.size := ⟨_, rfl⟩
  rw [← hT]
  obtain ⟨ρ3, j3⟩ := TO.start (M := M) (dp := dp) (HI2.out.after hb3) (HR2.out.after hb3) (hT ▸ hx3) (by omega) (HB2.out.trans (hb3.mono HB2.out.size))
  have I3 : Hid (TO M dp w w.heap.size (w.heap.size + 1) T vi (rTV t Pl3.none Pl3.none) Pl3.none [] Pl3.none [] Pl3.none [] ρ3 w3) := Lib.hid j3
  clear j3 hx3 hb3 hz3 hT hcv i0 i2 i3 i4 HI2 HR2 HB2 hz2
  go_upto_block 0 with fail
  go_cut [4] (fun _ wx => ∃ ρ c, Hid (TO M dp w w.heap.size (w.heap.size + 1) T vi (rTV t c Pl3.none) c t.cols Pl3.none [] Pl3.none [] ρ wx))
  case first =>
    go_wp2_with fail
    go_loopw [4] (fun i wr => ∃ ρ k c, k ≤ cn ∧ i = .int .i64 (k : Nat) ∧ Hid (TO M dp w w.heap.size (w.heap.size + 1) T vi (rTV t c Pl3.none) c (t.cols.take k) Pl3.none [] Pl3.none [] ρ wr)) (fun i _ => cn - (intOf i).toNat)
    case atStart => exact ⟨ρ3, 0, Pl3.none, by omega, rfl, I3⟩
    case round =>
      clear I3
      obtain ⟨ρ, k, c, hk, rfl, I4⟩ := hrel
      have i1 := I4.out.i.c 1 (.slice cA cn cc) (by rw [HVI.out]; rfl)
      have il4 := I4.out.i.lt
      by_cases hlt : k < cn
      · obtain ⟨x, hx⟩ : ∃ x, t.cols[k]? = some x := ⟨_, List.getElem?_eq_getElem (by have := HCL.out; omega)⟩
        obtain ⟨b, o, hbo, hSb, hbs, HC⟩ := HT.out.cl.at (by decide) (by show 0 < cn; omega)
        dsimp only at hbo
        subst hbo
        obtain ⟨v, _, hp, hv2⟩ := HC k x hx
        obtain ⟨A1, n1, c1, A2, n2, c2, rfl, hl1, hl2, hl3, hop⟩ := hp
        have hrg : wr.rangeAt b (o + k * 8) [.string (str x.space), .string (str x.table), .string (str x.name), .int .u16 (x.type.id : Int), .string (str x.type.space), .string (str x.type.name), .slice A1 n1 c1, .slice A2 n2 c2] := fun j u h => kcell I4.out.bs.below (hv2 j u h)
        have HX := Lib.hid (take_snoc hx)
        have HOP : Hid (colP M dp (fun b => b < w.heap.size) w x [.string (str x.space), .string (str x.table), .string (str x.name), .int .u16 (x.type.id : Int), .string (str x.type.space), .string (str x.type.name), .slice A1 n1 c1, .slice A2 n2 c2]) := Lib.hid ⟨A1, n1, c1, A2, n2, c2, rfl, hl1, hl2, hl3, hop⟩
        clear HC hv2 hx hl1 hl2 hl3 hop hSb hbs
        go_upto_region 6 with (first | (refine wpList_load_mid (by rfl) 64 _ (by rfl) b (o + k * 8) (by rfl) [.string (str x.space), .string (str x.table), .string (str x.name), .int .u16 (x.type.id : Int), .string (str x.type.space), .string (str x.type.name), .slice A1 n1 c1, .slice A2 n2 c2] _ hrg Tryd.underlying64 rfl (by kernel_rfl) ?_) | (refine wpList_store_newB (by rfl) 64 _ _ (by rfl) _ _ _ _ (by rfl) (by rfl) (by simp) (by rfl) (by kernel_rfl) (by rfl) (by rfl) ?_; intro w5 hb5 hz5 hx5))
        obtain ⟨ρ5, hr5, j5⟩ := I4.out.belowE hb5 8
        have I5 := Lib.hid j5
        have HC5 : Hid (Bx (fun b => b = wr.heap.size) w5 wr.heap.size [.string (str x.space), .string (str x.table), .string (str x.name), .int .u16 (x.type.id : Int), .string (str x.type.space), .string (str x.type.name), .slice A1 n1 c1, .slice A2 n2 c2]) := Lib.hid hx5
        have HCP : Hid (∀ W, Below w.heap.size w W → colP M dp (Rl ρ5 0) W x [.string (str x.space), .string (str x.table), .string (str x.name), .int .u16 (x.type.id : Int), .string (str x.type.space), .string (str x.type.name), .slice A1 n1 c1, .slice A2 n2 c2]) := Lib.hid fun W hW => (goesCol _ _).mono ((goesCol _ _).after HOP.out hW) fun b hb _ => I5.out.bs.role b hb fun h => h
        clear j5 hr5 hx5 hb5 hz5 hrg i1 il4 I4
        have hcl : c.2.1 ≤ 4096 := by have := I5.out.cl.len (by decide); rw [List.length_take] at this; omega
        have c0 := HC5.out.c 0 _ rfl
        have c1' := HC5.out.c 1 _ rfl
        have c2' := HC5.out.c 2 _ rfl
        have hrg3 : w5.rangeAt wr.heap.size 3 [.int .u16 (x.type.id : Int), .string (str x.type.space), .string (str x.type.name), .slice A1 n1 c1, .slice A2 n2 c2] := HC5.out.range_at rfl
        have HBA := Lib.hid ((Below.refl w5.heap.size w5).alloc (Nat.le_refl _) (.cells #[.string (str x.space), .string (str x.table), .string (str x.name), .int .u16 (x.type.id : Int), .string (str x.type.space), .string (str x.type.name), .slice A1 n1 c1, .slice A2 n2 c2] 87))
        have IA := Lib.hid (I5.out.after HBA.out)
        have t1 := I5.out.t.c 1 (.slice c.1 c.2.1 c.2.2) rfl
        have tl5 := I5.out.t.lt
        have cl5 := HC5.out.lt
        go_wp2_with (first | (refine wpList_load_mid (by rfl) 62 _ (by rfl) wr.heap.size 3 (by rfl) [.int .u16 (x.type.id : Int), .string (str x.type.space), .string (str x.type.name), .slice A1 n1 c1, .slice A2 n2 c2] _ hrg3 Tryd.underlying62 rfl (by kernel_rfl) ?_) | (refine wpList_built (by rfl) 87 _ (by rfl) #[.string (str x.space), .string (str x.table), .string (str x.name), .int .u16 (x.type.id : Int), .string (str x.type.space), .string (str x.type.name), .slice A1 n1 c1, .slice A2 n2 c2] (by kernel_rfl) ?_) | (at_builtin; go_loud (refine wpList_appX rfl tyC10 _ _ rfl (ρ := ρ5) (r := 5) _ _ _ (t.cols.take k) rfl IA.out.cl _ _ _ _ [x] rfl (arr_lit (P := colP M dp (Rl ρ5 0) _) _ #[.string (str x.space), .string (str x.table), .string (str x.name), .int .u16 (x.type.id : Int), .string (str x.type.space), .string (str x.type.name), .slice A1 n1 c1, .slice A2 n2 c2] x rfl (HCP.out _ (I5.out.bs.below.trans (HBA.out.mono I5.out.bs.below.size))) (by simp)) colP_one (fun _ _ _ h => h) (by omega) (by unfold maxLen; omega) ?_); intro A7 m7 d7 w7 ρ7 hx7 hown7 hf7; have I7 := Lib.hid (IA.out.app5 (c' := (A7, m7, d7)) hf7 hx7 hown7); clear hx7 hown7 hf7; have t1b := I7.out.t.c 1 (.slice c.1 c.2.1 c.2.2) rfl; have kt1 := I7.out.t.fr 1; have tl7 := I7.out.t.lt))
        have I8 : Hid (TO M dp w w.heap.size (w.heap.size + 1) T vi (rTV t (A7, m7, d7) Pl3.none) (A7, m7, d7) (t.cols.take (k + 1)) Pl3.none [] Pl3.none [] ρ7 _) := Lib.hid (HX.out ▸ I7.out.put 1 (.slice A7 m7 d7) (by show 1 < 6; decide))
        exact ⟨⟨ρ7, k + 1, (A7, m7, d7), by omega, by go_num, I8⟩, by simp [intOf]; omega⟩
      · obtain rfl : cn = k := by omega
        have HF : Hid (t.cols.take cn = t.cols) := Lib.hid (List.take_of_length_le (by have := HCL.out; omega))
        rw [HF.out] at I4
        go_wp2_with fail
        go_meet
        exact ⟨ρ, c, I4⟩
  case rest =>
    obtain ⟨ρ4, c, I4⟩ := hcut
    obtain ⟨w4, hwo⟩ : ∃ wo, wo = wc := ⟨_, rfl⟩
    subst hwo
    clear I3
    go_wp2_with fail
    go_loopw [6] (fun i wr => ∃ ρ k q, k ≤ qn ∧ i = .int .i64 (k : Nat) ∧ Hid (TO M dp w w.heap.size (w.heap.size + 1) T vi (rTV t c q) c t.cols q (t.rows.take k) Pl3.none [] ρ wr)) (fun i _ => qn - (intOf i).toNat)
    case atStart => exact ⟨ρ4, 0, Pl3.none, by omega, rfl, I4⟩
    case round =>
      clear I4
      obtain ⟨ρ, k, q, hk, rfl, I5⟩ := hrel
      have i5 := I5.out.i.c 5 (.slice qA qn qc) (by rw [HVI.out]; rfl)
      have il5 := I5.out.i.lt
      by_cases hlt : k < qn
      · obtain ⟨row, hrow⟩ : ∃ x, t.rows[k]? = some x := ⟨_, List.getElem?_eq_getElem (by have := HQL.out; omega)⟩
        obtain ⟨b, o, hbo, hSb, hbs, HC⟩ := HT.out.rw.at (by decide) (by show 0 < qn; omega)
        dsimp only at hbo
        subst hbo
        obtain ⟨v, _, hp, hv2⟩ := HC k row hrow
        obtain ⟨RA, rn, rc, rfl, hra⟩ := hp
        have hr0 := hv2 0 _ rfl
        simp only [Nat.add_zero, Nat.mul_one] at hr0
        have HR0 := Lib.hid hr0
        have HRA := Lib.hid hra
        have HX := Lib.hid (take_snoc hrow)
        have HRL := Lib.hid hra.len
        have hrc1 := hra.cap
        have hrc2 := hra.capMax
        have hrn : rn ≤ 4096 := by have := HRL.out; have := HSM.out.each row (List.mem_of_getElem? hrow); omega
        clear HC hv2 hr0 hra hrow hSb
        obtain ⟨wo, hwo⟩ : ∃ wo, wo = wr := ⟨_, rfl⟩
        subst hwo
        go_wp2_with fail
        clear i5 il5
        go_loopw [7, 8] (fun rv j wr => ∃ ρ k2 u, k2 ≤ rn ∧ rv = .slice u.1 u.2.1 u.2.2 ∧ j = .int .i64 (k2 : Nat) ∧ Hid (TO M dp w w.heap.size (w.heap.size + 1) T vi (rTV t c q) c t.cols q (t.rows.take k) u (row.take k2) ρ wr)) (fun _ j _ => rn - (intOf j).toNat)
        case atStart => exact ⟨ρ, 0, Pl3.none, by omega, rfl, rfl, I5⟩
        case round =>
          clear I5
          obtain ⟨ρ6, k2, u, hk2, rfl, rfl, I6⟩ := hrel
          have i5 := I6.out.i.c 5 (.slice (some ⟨b, o, none⟩) qn qc) (by rw [HVI.out]; rfl)
          have il5 := I6.out.i.lt
          have r0 := kcell I6.out.bs.below HR0.out
          have hbw : b < wr.heap.size := by have := I6.out.bs.size; omega
          by_cases hlt2 : k2 < rn
          · obtain ⟨x, hx⟩ : ∃ x, row[k2]? = some x := ⟨_, List.getElem?_eq_getElem (by have := HRL.out; omega)⟩
            obtain ⟨b2, o2, hbo, hSb2, hbs2, HC⟩ := HRA.out.at (by decide) (by omega)
            subst hbo
            obtain ⟨v, _, hp, hv2⟩ := HC k2 x hx
            obtain ⟨A9, n9, c9, rfl, hsl⟩ := hp
            have hc0 := kcell I6.out.bs.below (hv2 0 _ rfl)
            have hc1 := kcell I6.out.bs.below (hv2 1 _ rfl)
            simp only [Nat.add_zero] at hc0
            have HSL := Lib.hid (goesSl.after hsl I6.out.bs.below)
            have hxl : x.bytes.length ≤ 9223372036854775807 := by have := hsl.len; have := hsl.cap; have := hsl.capMax; omega
            have HX2 := Lib.hid (take_snoc hx)
            clear HC hv2 hx hsl
            go_upto_region 14 with fail
            have hT : ∀ b', b' < w.heap.size → ¬ G7 wr.heap.size ρ6 b' := fun b' hb h => by
              have h0 := I6.out.bs.role b' hb fun h => h
              have := I6.out.bs.size
              rcases h with h | h <;> omega
            have hTI : ¬ G7 wr.heap.size ρ6 w.heap.size := fun h => by
              have h0 : ρ6 w.heap.size = 1 := I6.out.i.role
              rcases h with h | h <;> omega
            have hdr : Below wr.heap.size wr wr.drew := (Below.refl _ _).drew
            have e5 := Fr.each (T := G7 wr.heap.size ρ6) hTI (kcell hdr i5)
            have e0 := Fr.each (T := G7 wr.heap.size ρ6) (hT b hbs) (kcell hdr r0)
            have e1 := Fr.each (T := G7 wr.heap.size ρ6) (hT b2 hSb2) (kcell hdr hc0)
            have e2 := Fr.each (T := G7 wr.heap.size ρ6) (hT b2 hSb2) (kcell hdr hc1)
            have hcvt : ∀ w', Fr (G7 wr.heap.size ρ6) wr.drew w' → (convert 22 9 (.slice A9 n9 c9)).run Tryd.prog w' = .ok (.string (str x.bytes)) w' := fun w' h => conv_sl (goesSl.keep (goesSl.after HSL.out hdr) h.size fun b hb hlt => h.block b hlt (hT b hb))
            have hkq : (k : Int) < (qn : Int) := by omega
            have hkr : (k2 : Int) < (rn : Int) := by omega
            have hul : u.2.1 ≤ 4096 := by have := I6.out.us.len (by decide); rw [List.length_take] at this; omega
            clear hdr hT hTI
            refine regf_start (G7 wr.heap.size ρ6) (by kernel_rfl) ?_
            (refine regf_take 0 (v := ?_) (by rfl) (by kernel_rfl) (by kernel_rfl) (by kernel_rfl) (by exact fun _ _ _ h => h) (by rfl) ?_ ?_; rotate_left; focus (intro w hSw; go_simp; try with_reducible rfl))
            simp only [Act.put, List.setIfInBounds_toArray, List.set_cons_zero, List.set_cons_succ]
            (refine regf_take 1 (v := ?_) (by rfl) (by kernel_rfl) (by kernel_rfl) (by kernel_rfl) (by exact fun _ _ _ h => h) (by rfl) ?_ ?_; rotate_left; focus (intro w hSw; go_simp; try with_reducible rfl))
            simp only [Act.put, List.setIfInBounds_toArray, List.set_cons_zero, List.set_cons_succ]
            (refine regf_take 2 (v := ?_) (by rfl) (by kernel_rfl) (by kernel_rfl) (by kernel_rfl) (by exact fun _ _ _ h => h) (by rfl) ?_ ?_; rotate_left; focus (intro w hSw; go_simp; try with_reducible rfl))
            simp only [Act.put, List.setIfInBounds_toArray, List.set_cons_zero, List.set_cons_succ]
            (refine regf_take 3 (v := ?_) (by rfl) (by kernel_rfl) (by kernel_rfl) (by kernel_rfl) (by exact fun _ _ _ h => h) (by rfl) ?_ ?_; rotate_left; focus (intro w hSw; go_simp; try with_reducible rfl))
            simp only [Act.put, List.setIfInBounds_toArray, List.set_cons_zero, List.set_cons_succ]
            (refine regf_take 4 (v := ?_) (by rfl) (by kernel_rfl) (by kernel_rfl) (by kernel_rfl) (by exact fun _ _ _ h => h) (by rfl) ?_ ?_; rotate_left; focus (intro w hSw; go_simp; try with_reducible rfl))
            simp only [Act.put, List.setIfInBounds_toArray, List.set_cons_zero, List.set_cons_succ]
            (refine regf_take 5 (v := ?_) (by rfl) (by kernel_rfl) (by kernel_rfl) (by kernel_rfl) (by exact fun _ _ _ h => h) (by rfl) ?_ ?_; rotate_left; focus (intro w hSw; go_simp; try with_reducible rfl))
            simp only [Act.put, List.setIfInBounds_toArray, List.set_cons_zero, List.set_cons_succ]
            (refine regf_take 6 (v := ?_) (by rfl) (by kernel_rfl) (by kernel_rfl) (by kernel_rfl) (by exact fun _ _ _ h => h) (by rfl) ?_ ?_; rotate_left; focus (intro w hSw; go_simp; try with_reducible rfl))
            simp only [Act.put, List.setIfInBounds_toArray, List.set_cons_zero, List.set_cons_succ]
            (refine regf_take 7 (v := ?_) (by rfl) (by kernel_rfl) (by kernel_rfl) (by kernel_rfl) (by exact fun _ _ _ h => h) (by rfl) ?_ ?_; rotate_left; focus (intro w hSw; go_simp; try with_reducible rfl))
            simp only [Act.put, List.setIfInBounds_toArray, List.set_cons_zero, List.set_cons_succ]
            (refine regf_take 8 (v := ?_) (by rfl) (by kernel_rfl) (by kernel_rfl) (by kernel_rfl) (by exact fun _ _ _ h => h) (by rfl) ?_ ?_; rotate_left; focus (intro w hSw; go_simp; try with_reducible rfl))
            simp only [Act.put, List.setIfInBounds_toArray, List.set_cons_zero, List.set_cons_succ]
            (refine regf_take 9 (v := ?_) (by rfl) (by kernel_rfl) (by kernel_rfl) (by kernel_rfl) (by exact fun _ _ _ h => h) (by rfl) ?_ ?_; rotate_left; focus (intro w hSw; go_simp; try with_reducible rfl))
            simp only [Act.put, List.setIfInBounds_toArray, List.set_cons_zero, List.set_cons_succ]
            (refine regf_take 10 (v := ?_) (by rfl) (by kernel_rfl) (by kernel_rfl) (by kernel_rfl) (by exact fun _ _ _ h => h) (by rfl) ?_ ?_; rotate_left; focus (intro w hSw; go_simp; try with_reducible rfl))
            simp only [Act.put, List.setIfInBounds_toArray, List.set_cons_zero, List.set_cons_succ]
            (refine regf_take 11 (v := ?_) (by rfl) (by kernel_rfl) (by kernel_rfl) (by kernel_rfl) (by exact fun _ _ _ h => h) (by rfl) ?_ ?_; rotate_left; focus (intro w hSw; go_simp; try with_reducible rfl))
            simp only [Act.put, List.setIfInBounds_toArray, List.set_cons_zero, List.set_cons_succ]
            (refine regf_take 12 (v := ?_) (by rfl) (by kernel_rfl) (by kernel_rfl) (by kernel_rfl) (by exact fun _ _ _ h => h) (by rfl) ?_ ?_; rotate_left; focus (intro w hSw; go_simp; try with_reducible rfl))
            simp only [Act.put, List.setIfInBounds_toArray, List.set_cons_zero, List.set_cons_succ]
            (refine regf_take 13 (v := ?_) (by rfl) (by kernel_rfl) (by kernel_rfl) (by kernel_rfl) (by exact fun _ _ _ h => h) (by rfl) ?_ ?_; rotate_left; focus (intro w hSw; go_simp; try with_reducible rfl))
            simp only [Act.put, List.setIfInBounds_toArray, List.set_cons_zero, List.set_cons_succ]
            (refine regf_take 14 (v := ?_) (by rfl) (by kernel_rfl) (by kernel_rfl) (by kernel_rfl) (by exact fun _ _ _ h => h) (by rfl) ?_ ?_; rotate_left; focus (intro w hSw; go_simp; try with_reducible rfl))
            simp only [Act.put, List.setIfInBounds_toArray, List.set_cons_zero, List.set_cons_succ]
            (refine regf_take 15 (v := ?_) (by rfl) (by kernel_rfl) (by kernel_rfl) (by kernel_rfl) (by exact fun _ _ _ h => h) (by rfl) ?_ ?_; rotate_left; focus (intro w hSw; go_simp; try with_reducible rfl))
            simp only [Act.put, List.setIfInBounds_toArray, List.set_cons_zero, List.set_cons_succ]
            (refine regf_take 16 (v := ?_) (by rfl) (by kernel_rfl) (by kernel_rfl) (by kernel_rfl) (by exact fun _ _ _ h => h) (by rfl) ?_ ?_; rotate_left; focus (intro w hSw; go_simp; try with_reducible rfl))
            simp only [Act.put, List.setIfInBounds_toArray, List.set_cons_zero, List.set_cons_succ]
            (refine regf_take 17 (v := ?_) (by rfl) (by kernel_rfl) (by kernel_rfl) (by kernel_rfl) (by exact fun _ _ _ h => h) (by rfl) ?_ ?_; rotate_left; focus (intro w hSw; go_simp; try with_reducible rfl))
            simp only [Act.put, List.setIfInBounds_toArray, List.set_cons_zero, List.set_cons_succ]
            (refine regf_take 18 (v := ?_) (by rfl) (by kernel_rfl) (by kernel_rfl) (by kernel_rfl) (by exact fun _ _ _ h => h) (by rfl) ?_ ?_; rotate_left; focus (intro w hSw; go_simp; try with_reducible rfl))
            simp only [Act.put, List.setIfInBounds_toArray, List.set_cons_zero, List.set_cons_succ]
            (refine regf_take 19 (v := ?_) (by rfl) (by kernel_rfl) (by kernel_rfl) (by kernel_rfl) (by exact fun _ _ _ h => h) (by rfl) ?_ ?_; rotate_left; focus (intro w hSw; go_simp; try with_reducible rfl))
            simp only [Act.put, List.setIfInBounds_toArray, List.set_cons_zero, List.set_cons_succ]
            (refine regf_take 20 (v := ?_) (by rfl) (by kernel_rfl) (by kernel_rfl) (by kernel_rfl) (by exact fun _ _ _ h => h) (by rfl) ?_ ?_; rotate_left; focus (intro w hSw; go_simp; try with_reducible rfl))
            simp only [Act.put, List.setIfInBounds_toArray, List.set_cons_zero, List.set_cons_succ]
            refine regf_call 21 (by kernel_rfl) (by rfl) (fun K hK => ?_)
            go_simp
            refine hK.out _ _ ((by exact Fr.of_below (by repeat (first | exact Below.refl _ _ | exact below_undrew (Below.refl _ _) | assumption | refine Below.drew ?_ | refine below_drewN ?_ _ | refine Below.alloc ?_ (by simp) _ | refine Below.setCell ?_ (by simp) _)))) ?_
            clear hK K
            try simp only [Act.put, List.setIfInBounds_toArray, List.set_cons_zero, List.set_cons_succ]
            refine regf_call 22 (by kernel_rfl) (by rfl) (fun K hK => ?_)
            refine step_appX rfl tyV10 _ _ rfl (ρ := ρ6) (r := 7) _ _ _ (row.take k2) rfl (I6.out.after (by repeat (first | exact Below.refl _ _ | assumption | refine Below.drew ?_ | refine below_drewN ?_ _ | refine Below.alloc ?_ (by first | (simp; done) | omega | (simp; omega)) _ | refine Below.setCell ?_ (by first | (simp; done) | omega | (simp; omega)) _))).us _ _ _ _ [x] rfl (arr_lit (P := vRf) _ #[.int .i64 x.kind, .string (str x.bytes)] x rfl ⟨rfl, hxl⟩ (by first | rfl | simp)) (fun _ _ h => vRf_one _ _ h) (fun _ _ _ h => h) (by omega) (by unfold maxLen; omega) ?_; intro A7 m7 d7 w7 ρ7 hx7 hown7 hf7; have I7 := Lib.hid ((I6.out.after (by repeat (first | exact Below.refl _ _ | assumption | refine Below.drew ?_ | refine below_drewN ?_ _ | refine Below.alloc ?_ (by first | (simp; done) | omega | (simp; omega)) _ | refine Below.setCell ?_ (by first | (simp; done) | omega | (simp; omega)) _))).app7 (u' := (A7, m7, d7)) hf7 hx7 hown7)
            refine hK.out _ _ ((Fr.i7 hf7)) ?_
            clear hK K
            try simp only [Act.put, List.setIfInBounds_toArray, List.set_cons_zero, List.set_cons_succ]
            (refine regf_take 23 (v := ?_) (by rfl) (by kernel_rfl) (by kernel_rfl) (by kernel_rfl) (by exact fun _ _ _ h => h) (by rfl) ?_ ?_; rotate_left; focus (intro w hSw; go_simp; try with_reducible rfl))
            simp only [Act.put, List.setIfInBounds_toArray, List.set_cons_zero, List.set_cons_succ]
            refine wpAnyH_done (by kernel_rfl) ?_ _
            all_goals
              rw [← HX2.out] at I7
              clear hx7 hown7 hf7 e5 e0 e1 e2 hcvt I6
              go_wp2_with fail
              exact ⟨⟨ρ7, k2 + 1, (A7, m7, d7), by omega, rfl, by go_num, I7⟩, by simp [intOf]; omega⟩
          · obtain rfl : rn = k2 := by omega
            have HF : Hid (row.take rn = row) := Lib.hid (List.take_of_length_le (by have := HRL.out; omega))
            rw [HF.out] at I6
            obtain ⟨ρ7, j7, hu7⟩ := I6.out.merge
            have HU := Lib.hid hu7
            have I7 := Lib.hid j7
            clear j7 hu7 I6
            have hql : q.2.1 ≤ 4096 := by have := I7.out.rw.len (by decide); rw [List.length_take] at this; omega
            have HBA := Lib.hid ((Below.refl wr.heap.size wr).alloc (Nat.le_refl _) (.cells #[.slice u.1 u.2.1 u.2.2] 84))
            have IA := Lib.hid (I7.out.after HBA.out)
            have HUA := Lib.hid (goesArr.after HU.out HBA.out)
            have t5 := I7.out.t.c 5 (.slice q.1 q.2.1 q.2.2) rfl
            have tl7 := I7.out.t.lt
            go_wp2_with (first | (at_builtin; go_loud (refine wpList_appX rfl tyR10 _ _ rfl (ρ := ρ7) (r := 4) _ _ _ (t.rows.take k) rfl IA.out.rw _ _ _ _ [row] rfl (arr_lit (P := rrowP (Rl ρ7 6) _) _ #[.slice u.1 u.2.1 u.2.2] row rfl ⟨u.1, u.2.1, u.2.2, rfl, HUA.out⟩ (by simp)) (fun _ _ h => rrowP_one _ _ h) (fun _ _ _ h => h) (by omega) (by unfold maxLen; omega) ?_); intro A9 m9 d9 w9 ρ9 hx9 hown9 hf9; have I9 := Lib.hid (IA.out.app4 (q' := (A9, m9, d9)) hf9 hx9 hown9); clear hx9 hown9 hf9; have t5b := I9.out.t.c 5 (.slice q.1 q.2.1 q.2.2) rfl; have kt5 := I9.out.t.fr 5; have tl9 := I9.out.t.lt))
            have I10 : Hid (TO M dp w w.heap.size (w.heap.size + 1) T vi (rTV t c (A9, m9, d9)) c t.cols (A9, m9, d9) (t.rows.take (k + 1)) Pl3.none [] ρ9 _) := Lib.hid (HX.out ▸ I9.out.put 5 (.slice A9 m9 d9) (by show 5 < 6; decide))
            exact ⟨⟨ρ9, k + 1, (A9, m9, d9), by omega, by go_num, I10⟩, by simp [intOf]; omega⟩
      · obtain rfl : qn = k := by omega
        have HF : Hid (t.rows.take qn = t.rows) := Lib.hid (List.take_of_length_le (by have := HQL.out; omega))
        rw [HF.out] at I5
        have tl := I5.out.t.lt
        have rl := I5.out.r.lt
        go_wp2_with (first | (refine wpList_loadB I5.out.t (by rfl) 38 _ (by rfl) (by rfl) _ Tryd.underlying38 rfl (by kernel_rfl) ?_) | (refine wpList_storeB I5.out.r (by rfl) 38 _ _ (by rfl) 0 (rTV t c q) (by rfl) (by rfl) (by kernel_rfl) (by show 0 + 6 ≤ 6; decide) (by rfl) ?_; intro wz hxz hgz; have HXZ : Hid (Bx (Rl ρ 2) wz (w.heap.size + 1) (rTV t c q)) := Lib.hid hxz; have HGZ := Lib.hid hgz; clear hxz hgz))
        refine bodyPost_ret (results_b1 (vs := rTV t c q) rfl HXZ.out (by rfl) _ Tryd.underlying38 rfl (by kernel_rfl)) rfl ?_
        have hfin := I5.out.fin HGZ.out t.count t.more t.state
        exact ⟨c, q, rfl, hfin.2, hfin.1⟩
end Go.Proofs.Sb
