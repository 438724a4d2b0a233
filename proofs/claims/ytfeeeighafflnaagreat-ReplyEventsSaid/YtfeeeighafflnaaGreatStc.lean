/- Walks over reply.part, reading: each kind of part; and over the closures that read. Conditions: lengths up to 2^47. (written by gen_st.py) -/
import Derived.Test.YtfeeeighafflnaaGreatStb
set_option linter.unusedVariables false
set_option linter.unusedSimpArgs false
namespace Go.Proofs.Sb
open Go.RowKit _root_.Sb

theorem goesArrM {A : Option Addr} {n c : Nat} {l : List (B × List B)} : Goes fun S w => Arr 2 (multiP S w) S w A n c l :=
  ⟨fun h hs hk => (goesArr.keep h hs hk).imp fun x _ v hp => hp.imp fun _ _ _ _ h => goesArr.keep h hs hk, fun h hS => (goesArr.mono h hS).imp fun x _ v hp => hp.imp fun _ _ _ _ h => goesArr.mono h hS⟩

set_option maxHeartbeats 2000000 in
set_option maxRecDepth 100000 in
theorem stc_code {S : Nat → Prop} {A : Option Addr} {m c : Nat} {bs : B} {w : World} (hs : Sl S w A m c bs) (r : Res Nat) (hr : getN 4 bs = r) :
    Calls Tryz.prog 67 #[.slice A m c] w fun e w' => ∃ A2 m2 c2, e = .returned (.tuple #[.int .u32 ((rval 0 r : Nat) : Int), .slice A2 m2 c2, .int .i64 (rerr r)]) ∧ Sl S w' A2 m2 c2 (rrest r) ∧ Below w.heap.size w w' := by
  have hlt : rval 0 r < 256 ^ 4 := by
    cases r with
    | error e => exact Nat.pow_pos (by decide)
    | ok p => exact (getN_ok (x := p.1) (r := p.2) hr).2.2.2
  simp only [Nat.reducePow] at hlt
  have HS := Lib.hid hs; clear hs
  have HR := Lib.hid hr; clear hr
  obtain ⟨v, hv⟩ : ∃ v, v = rval 0 r := ⟨_, rfl⟩
  rw [← hv] at hlt ⊢
  have HV := Lib.hid hv; clear hv
  go_enter Tryz.func67, Tryz.ntmps67
  go_wp2_with fail
  refine (get_any (n := 4) HS.out (by decide) (by decide) r HR.out).mono ?_
  rintro e w1 ⟨A2, m2, c2, rfl, hs2, hb⟩
  rw [← HV.out]
  have HS2 := Lib.hid hs2; have HB := Lib.hid hb; clear hs2 hb
  go_wp2_with fail
  go_ret3
  exact ⟨A2, m2, c2, rfl, HS2.out, HB.out⟩

set_option maxHeartbeats 2000000 in
set_option maxRecDepth 100000 in
theorem stc_octet {S : Nat → Prop} {A : Option Addr} {m c : Nat} {bs : B} {w : World} (hs : Sl S w A m c bs) (r : Res Nat) (hr : getN 1 bs = r) :
    Calls Tryz.prog 75 #[.slice A m c] w fun e w' => ∃ A2 m2 c2, e = .returned (.tuple #[.int .u8 ((rval 0 r : Nat) : Int), .slice A2 m2 c2, .int .i64 (rerr r)]) ∧ Sl S w' A2 m2 c2 (rrest r) ∧ Below w.heap.size w w' := by
  have hlt : rval 0 r < 256 ^ 1 := by
    cases r with
    | error e => exact Nat.pow_pos (by decide)
    | ok p => exact (getN_ok (x := p.1) (r := p.2) hr).2.2.2
  simp only [Nat.reducePow] at hlt
  have HS := Lib.hid hs; clear hs
  have HR := Lib.hid hr; clear hr
  obtain ⟨v, hv⟩ : ∃ v, v = rval 0 r := ⟨_, rfl⟩
  rw [← hv] at hlt ⊢
  have HV := Lib.hid hv; clear hv
  go_enter Tryz.func75, Tryz.ntmps75
  go_wp2_with fail
  refine (get_any (n := 1) HS.out (by decide) (by decide) r HR.out).mono ?_
  rintro e w1 ⟨A2, m2, c2, rfl, hs2, hb⟩
  rw [← HV.out]
  have HS2 := Lib.hid hs2; have HB := Lib.hid hb; clear hs2 hb
  go_wp2_with fail
  go_ret3
  exact ⟨A2, m2, c2, rfl, HS2.out, HB.out⟩

set_option maxHeartbeats 2000000 in
set_option maxRecDepth 100000 in
theorem stc_all {S : Nat → Prop} {A : Option Addr} {m c : Nat} {bs : B} {w : World} (hs : Sl S w A m c bs) (hm : m ≤ 140737488355328) (r : Res B) (hr : allR bs = r) :
    Calls Tryz.prog 87 #[.slice A m c] w fun e w' => ∃ A1 m1 c1 A2 m2 c2, e = .returned (.tuple #[.slice A1 m1 c1, .slice A2 m2 c2, .int .i64 (rerr r)]) ∧ Sl (fun b => w.heap.size ≤ b) w' A1 m1 c1 (rval [] r) ∧ Sl S w' A2 m2 c2 (rrest r) ∧ Below w.heap.size w w' := by
  have HS := Lib.hid hs; clear hs
  have HR : Hid (r = .ok (bs, [])) := Lib.hid hr.symm; clear hr
  go_enter Tryz.func87, Tryz.ntmps87
  go_wp2_with fail
  refine (clone_any HS.out hm).mono ?_
  rintro e w1 ⟨A1, m1, c1, rfl, ho, hb⟩
  have HO := Lib.hid ho; have HB := Lib.hid hb; clear ho hb
  go_wp2_with fail
  go_ret3
  rw [HR.out]
  exact ⟨A1, m1, c1, none, 0, 0, rfl, HO.out.sl, Sl.nil, HB.out⟩

set_option maxHeartbeats 4000000 in
set_option maxRecDepth 100000 in
theorem spr_text {S : Nat → Prop} {w : World} {X P i : Nat} {s : Wr} {vs : List Value} {x0 : B} (h : StR S w X s) (hB : Bx (fun b => b = P) w P vs) (hi0 : vs[i]? = some (.string (str x0))) (hSX : ∀ b, S b → b ≠ X) (hSP : ∀ b, S b → b ≠ P) (hPX : P ≠ X) :
    Calls Tryz.prog 49 #[.pointer (some ⟨X, 0, none⟩), .pointer (some ⟨P, i, none⟩), .func (.func 50) #[] #[], .func (.func 51) #[] #[]] w fun e w' => e = .returned (.tuple #[]) ∧ StR S w' X (gR getText s) ∧ Fr (fun b => b = X ∨ b = P) w w' ∧ Bx (fun b => b = P) w' P (vs.set i (.string (str (gV x0 getText s)))) := by
  have HA := Lib.hid h
  have HBP := Lib.hid hB; clear hB
  have HSX := Lib.hid hSX; have HSP := Lib.hid hSP; clear hSX hSP
  have HI0 := Lib.hid hi0; clear hi0
  have hXP : X ≠ P := fun e => hPX e.symm
  obtain ⟨A, n, c, hx, h3, h4⟩ := h
  have HBX := Lib.hid hx; clear hx
  have k0 := HBX.out.c 0 _ rfl
  have k1 := HBX.out.c 1 _ rfl
  have k2 := HBX.out.c 2 _ rfl
  cases s with
  | error e =>
    have hne : (e != 0) = true := bne_iff_ne.2 (h4 e rfl)
    simp only [werr_error] at k2
    clear h3 h4
    go_enter Tryz.func49, Tryz.ntmps49
    go_wp2_with fail
    refine bodyPost_ret (v := .tuple #[]) (results_none rfl _ _ _) rfl ?_
    exact ⟨rfl, HA.out, Fr.refl _ _, (by rw [gV_of]; exact bx_same1 HBP.out HI0.out)⟩
  | ok cur =>
    simp only [werr_ok] at k2
    obtain ⟨h3, hm⟩ := h3 cur rfl
    have H3 := Lib.hid h3
    have hcl : cur.length ≤ 140737488355328 := by have := h3.len; omega
    clear h4 h3
    obtain ⟨r, hr⟩ : ∃ r, getText cur = r := ⟨_, rfl⟩
    have HR := Lib.hid hr; clear hr
    go_enter Tryz.func49, Tryz.ntmps49
    go_wp2_with fail
    refine (getText_any H3.out hm r HR.out).mono ?_
    rintro e w1 ⟨A2, m2, c2, rfl, hs2, hb⟩
    have HBX1 := Lib.hid (goesBx.after HBX.out hb)
    have HBP1 := Lib.hid (goesBx.after HBP.out hb)
    have j0 := HBX1.out.c 0 _ rfl
    have j1 := HBX1.out.c 1 _ rfl
    have j2 := HBX1.out.c 2 _ rfl
    have g1 := HBX1.out.fr 1
    have g2 := HBX1.out.fr 2
    have q0 := HBP1.out.c i _ HI0.out
    have p0 := HBP1.out.fr i
    have HF := Lib.hid (frTwo (X := X) (P := P) hb (.slice A2 m2 c2) (.int .i64 (rerr r)))
    have HRD : Hid (StR S ((w1.setCell ⟨X, 1, none⟩ (.slice A2 m2 c2)).setCell ⟨X, 2, none⟩ (.int .i64 (rerr r))) X (gR getText (.ok cur))) := Lib.hid (StR.next (g := getText) HBX1.out HR.out hs2 HSX.out (fun x r' e => by have := Lc.len lcText (HR.out.trans e); omega) (fun e he => nzText _ _ (HR.out.trans he)))
    have HBP2 : Hid (Bx (fun b => b = P) ((w1.setCell ⟨X, 1, none⟩ (.slice A2 m2 c2)).setCell ⟨X, 2, none⟩ (.int .i64 (rerr r))) P vs) := Lib.hid (goesBx.keep HBP1.out (by simp) fun b hb' _ => (Below.heap_setCell _ ⟨X, 2, none⟩ _ b (by rw [hb']; exact hPX)).trans (Below.heap_setCell _ ⟨X, 1, none⟩ _ b (by rw [hb']; exact hPX)))

    have hX1 := HBX1.out.lt
    have hP1 := HBP1.out.lt
    have hz1 := hb.size
    clear k0 k1 k2 hb hs2
    cases r with
    | error er =>
      have hne : (er == 0) = false := beq_eq_false_iff_ne.2 (nzText _ _ HR.out)
      have hgv : gV x0 getText (.ok cur) = x0 := by rw [gV_ok HR.out]; rfl
      have HGV := Lib.hid hgv; clear hgv
      simp only [rval_error, rerr_error] at HRD HBP2 HF ⊢
      go_wp2_with fail
      first | refine bodyPost_end (results_none rfl _ _ _) rfl ?_ | refine bodyPost_ret (v := .tuple #[]) (results_none rfl _ _ _) rfl ?_
      exact ⟨rfl, HRD.out, HF.out, (by rw [HGV.out]; exact bx_same1 HBP2.out HI0.out)⟩
    | ok x =>
      obtain ⟨y, rest⟩ := x
      have hgv : gV x0 getText (.ok cur) = y := by rw [gV_ok HR.out]; rfl
      have HGV := Lib.hid hgv; clear hgv
      simp only [rval_ok, rerr_ok] at HRD HBP2 HF  ⊢
      go_wp2_with fail
      first | refine bodyPost_end (results_none rfl _ _ _) rfl ?_ | refine bodyPost_ret (v := .tuple #[]) (results_none rfl _ _ _) rfl ?_
      exact ⟨rfl, (HRD.out.place hPX HSP.out (.string (str (y)))), (Fr.trans HF.out (Fr.set (S := fun b => b = X ∨ b = P) _ (X := P) (.inr rfl) (.string (str (y))))), (by rw [HGV.out]; exact (HBP2.out.put i (.string (str (y))) (vs_lt HI0.out)))⟩

set_option maxHeartbeats 4000000 in
set_option maxRecDepth 100000 in
theorem spr_level {S : Nat → Prop} {w : World} {X P i : Nat} {s : Wr} {vs : List Value} {x0 : Nat} (h : StR S w X s) (hB : Bx (fun b => b = P) w P vs) (hi0 : vs[i]? = some (.int .u16 ((x0 : Nat) : Int))) (hSX : ∀ b, S b → b ≠ X) (hSP : ∀ b, S b → b ≠ P) (hPX : P ≠ X) :
    Calls Tryz.prog 71 #[.pointer (some ⟨X, 0, none⟩), .pointer (some ⟨P, i, none⟩), .func (.func 72) #[] #[], .func (.func 73) #[] #[]] w fun e w' => e = .returned (.tuple #[]) ∧ StR S w' X (gR getCons s) ∧ Fr (fun b => b = X ∨ b = P) w w' ∧ Bx (fun b => b = P) w' P (vs.set i (.int .u16 ((gV x0 getCons s : Nat) : Int))) := by
  have HA := Lib.hid h
  have HBP := Lib.hid hB; clear hB
  have HSX := Lib.hid hSX; have HSP := Lib.hid hSP; clear hSX hSP
  have HI0 := Lib.hid hi0; clear hi0
  have hXP : X ≠ P := fun e => hPX e.symm
  obtain ⟨A, n, c, hx, h3, h4⟩ := h
  have HBX := Lib.hid hx; clear hx
  have k0 := HBX.out.c 0 _ rfl
  have k1 := HBX.out.c 1 _ rfl
  have k2 := HBX.out.c 2 _ rfl
  cases s with
  | error e =>
    have hne : (e != 0) = true := bne_iff_ne.2 (h4 e rfl)
    simp only [werr_error] at k2
    clear h3 h4
    go_enter Tryz.func71, Tryz.ntmps71
    go_wp2_with fail
    refine bodyPost_ret (v := .tuple #[]) (results_none rfl _ _ _) rfl ?_
    exact ⟨rfl, HA.out, Fr.refl _ _, (by rw [gV_of]; exact bx_same1 HBP.out HI0.out)⟩
  | ok cur =>
    simp only [werr_ok] at k2
    obtain ⟨h3, hm⟩ := h3 cur rfl
    have H3 := Lib.hid h3
    have hcl : cur.length ≤ 140737488355328 := by have := h3.len; omega
    clear h4 h3
    obtain ⟨r, hr⟩ : ∃ r, getCons cur = r := ⟨_, rfl⟩
    have HR := Lib.hid hr; clear hr
    go_enter Tryz.func71, Tryz.ntmps71
    go_wp2_with fail
    refine (getCons_any H3.out r HR.out).mono ?_
    rintro e w1 ⟨A2, m2, c2, rfl, hs2, hb⟩
    have HBX1 := Lib.hid (goesBx.after HBX.out hb)
    have HBP1 := Lib.hid (goesBx.after HBP.out hb)
    have j0 := HBX1.out.c 0 _ rfl
    have j1 := HBX1.out.c 1 _ rfl
    have j2 := HBX1.out.c 2 _ rfl
    have g1 := HBX1.out.fr 1
    have g2 := HBX1.out.fr 2
    have q0 := HBP1.out.c i _ HI0.out
    have p0 := HBP1.out.fr i
    have HF := Lib.hid (frTwo (X := X) (P := P) hb (.slice A2 m2 c2) (.int .i64 (rerr r)))
    have HRD : Hid (StR S ((w1.setCell ⟨X, 1, none⟩ (.slice A2 m2 c2)).setCell ⟨X, 2, none⟩ (.int .i64 (rerr r))) X (gR getCons (.ok cur))) := Lib.hid (StR.next (g := getCons) HBX1.out HR.out hs2 HSX.out (fun x r' e => by have := Lc.len lcCons (HR.out.trans e); omega) (fun e he => nzCons _ _ (HR.out.trans he)))
    have HBP2 : Hid (Bx (fun b => b = P) ((w1.setCell ⟨X, 1, none⟩ (.slice A2 m2 c2)).setCell ⟨X, 2, none⟩ (.int .i64 (rerr r))) P vs) := Lib.hid (goesBx.keep HBP1.out (by simp) fun b hb' _ => (Below.heap_setCell _ ⟨X, 2, none⟩ _ b (by rw [hb']; exact hPX)).trans (Below.heap_setCell _ ⟨X, 1, none⟩ _ b (by rw [hb']; exact hPX)))

    have hX1 := HBX1.out.lt
    have hP1 := HBP1.out.lt
    have hz1 := hb.size
    clear k0 k1 k2 hb hs2
    cases r with
    | error er =>
      have hne : (er == 0) = false := beq_eq_false_iff_ne.2 (nzCons _ _ HR.out)
      have hgv : gV x0 getCons (.ok cur) = x0 := by rw [gV_ok HR.out]; rfl
      have HGV := Lib.hid hgv; clear hgv
      simp only [rval_error, rerr_error] at HRD HBP2 HF ⊢
      go_wp2_with fail
      first | refine bodyPost_end (results_none rfl _ _ _) rfl ?_ | refine bodyPost_ret (v := .tuple #[]) (results_none rfl _ _ _) rfl ?_
      exact ⟨rfl, HRD.out, HF.out, (by rw [HGV.out]; exact bx_same1 HBP2.out HI0.out)⟩
    | ok x =>
      obtain ⟨y, rest⟩ := x
      have hgv : gV x0 getCons (.ok cur) = y := by rw [gV_ok HR.out]; rfl
      have HGV := Lib.hid hgv; clear hgv
      simp only [rval_ok, rerr_ok] at HRD HBP2 HF  ⊢
      go_wp2_with fail
      first | refine bodyPost_end (results_none rfl _ _ _) rfl ?_ | refine bodyPost_ret (v := .tuple #[]) (results_none rfl _ _ _) rfl ?_
      exact ⟨rfl, (HRD.out.place hPX HSP.out (.int .u16 ((y : Nat) : Int))), (Fr.trans HF.out (Fr.set (S := fun b => b = X ∨ b = P) _ (X := P) (.inr rfl) (.int .u16 ((y : Nat) : Int)))), (by rw [HGV.out]; exact (HBP2.out.put i (.int .u16 ((y : Nat) : Int)) (vs_lt HI0.out)))⟩

set_option maxHeartbeats 4000000 in
set_option maxRecDepth 100000 in
theorem spr_code {S : Nat → Prop} {w : World} {X P i : Nat} {s : Wr} {vs : List Value} {x0 : Nat} (h : StR S w X s) (hB : Bx (fun b => b = P) w P vs) (hi0 : vs[i]? = some (.int .u32 ((x0 : Nat) : Int))) (hSX : ∀ b, S b → b ≠ X) (hSP : ∀ b, S b → b ≠ P) (hPX : P ≠ X) :
    Calls Tryz.prog 66 #[.pointer (some ⟨X, 0, none⟩), .pointer (some ⟨P, i, none⟩), .func (.func 67) #[] #[], .func (.func 69) #[] #[]] w fun e w' => e = .returned (.tuple #[]) ∧ StR S w' X (gR (getN 4) s) ∧ Fr (fun b => b = X ∨ b = P) w w' ∧ Bx (fun b => b = P) w' P (vs.set i (.int .u32 ((gV x0 (getN 4) s : Nat) : Int))) := by
  have HA := Lib.hid h
  have HBP := Lib.hid hB; clear hB
  have HSX := Lib.hid hSX; have HSP := Lib.hid hSP; clear hSX hSP
  have HI0 := Lib.hid hi0; clear hi0
  have hXP : X ≠ P := fun e => hPX e.symm
  obtain ⟨A, n, c, hx, h3, h4⟩ := h
  have HBX := Lib.hid hx; clear hx
  have k0 := HBX.out.c 0 _ rfl
  have k1 := HBX.out.c 1 _ rfl
  have k2 := HBX.out.c 2 _ rfl
  cases s with
  | error e =>
    have hne : (e != 0) = true := bne_iff_ne.2 (h4 e rfl)
    simp only [werr_error] at k2
    clear h3 h4
    go_enter Tryz.func66, Tryz.ntmps66
    go_wp2_with fail
    refine bodyPost_ret (v := .tuple #[]) (results_none rfl _ _ _) rfl ?_
    exact ⟨rfl, HA.out, Fr.refl _ _, (by rw [gV_of]; exact bx_same1 HBP.out HI0.out)⟩
  | ok cur =>
    simp only [werr_ok] at k2
    obtain ⟨h3, hm⟩ := h3 cur rfl
    have H3 := Lib.hid h3
    have hcl : cur.length ≤ 140737488355328 := by have := h3.len; omega
    clear h4 h3
    obtain ⟨r, hr⟩ : ∃ r, (getN 4) cur = r := ⟨_, rfl⟩
    have HR := Lib.hid hr; clear hr
    go_enter Tryz.func66, Tryz.ntmps66
    go_wp2_with fail
    refine (stc_code H3.out r HR.out).mono ?_
    rintro e w1 ⟨A2, m2, c2, rfl, hs2, hb⟩
    have HBX1 := Lib.hid (goesBx.after HBX.out hb)
    have HBP1 := Lib.hid (goesBx.after HBP.out hb)
    have j0 := HBX1.out.c 0 _ rfl
    have j1 := HBX1.out.c 1 _ rfl
    have j2 := HBX1.out.c 2 _ rfl
    have g1 := HBX1.out.fr 1
    have g2 := HBX1.out.fr 2
    have q0 := HBP1.out.c i _ HI0.out
    have p0 := HBP1.out.fr i
    have HF := Lib.hid (frTwo (X := X) (P := P) hb (.slice A2 m2 c2) (.int .i64 (rerr r)))
    have HRD : Hid (StR S ((w1.setCell ⟨X, 1, none⟩ (.slice A2 m2 c2)).setCell ⟨X, 2, none⟩ (.int .i64 (rerr r))) X (gR (getN 4) (.ok cur))) := Lib.hid (StR.next (g := (getN 4)) HBX1.out HR.out hs2 HSX.out (fun x r' e => by have := Lc.len (lcN 4) (HR.out.trans e); omega) (fun e he => (nzN 4) _ _ (HR.out.trans he)))
    have HBP2 : Hid (Bx (fun b => b = P) ((w1.setCell ⟨X, 1, none⟩ (.slice A2 m2 c2)).setCell ⟨X, 2, none⟩ (.int .i64 (rerr r))) P vs) := Lib.hid (goesBx.keep HBP1.out (by simp) fun b hb' _ => (Below.heap_setCell _ ⟨X, 2, none⟩ _ b (by rw [hb']; exact hPX)).trans (Below.heap_setCell _ ⟨X, 1, none⟩ _ b (by rw [hb']; exact hPX)))

    have hX1 := HBX1.out.lt
    have hP1 := HBP1.out.lt
    have hz1 := hb.size
    clear k0 k1 k2 hb hs2
    cases r with
    | error er =>
      have hne : (er == 0) = false := beq_eq_false_iff_ne.2 ((nzN 4) _ _ HR.out)
      have hgv : gV x0 (getN 4) (.ok cur) = x0 := by rw [gV_ok HR.out]; rfl
      have HGV := Lib.hid hgv; clear hgv
      simp only [rval_error, rerr_error] at HRD HBP2 HF ⊢
      go_wp2_with fail
      first | refine bodyPost_end (results_none rfl _ _ _) rfl ?_ | refine bodyPost_ret (v := .tuple #[]) (results_none rfl _ _ _) rfl ?_
      exact ⟨rfl, HRD.out, HF.out, (by rw [HGV.out]; exact bx_same1 HBP2.out HI0.out)⟩
    | ok x =>
      obtain ⟨y, rest⟩ := x
      have hgv : gV x0 (getN 4) (.ok cur) = y := by rw [gV_ok HR.out]; rfl
      have HGV := Lib.hid hgv; clear hgv
      simp only [rval_ok, rerr_ok] at HRD HBP2 HF  ⊢
      go_wp2_with fail
      first | refine bodyPost_end (results_none rfl _ _ _) rfl ?_ | refine bodyPost_ret (v := .tuple #[]) (results_none rfl _ _ _) rfl ?_
      exact ⟨rfl, (HRD.out.place hPX HSP.out (.int .u32 ((y : Nat) : Int))), (Fr.trans HF.out (Fr.set (S := fun b => b = X ∨ b = P) _ (X := P) (.inr rfl) (.int .u32 ((y : Nat) : Int)))), (by rw [HGV.out]; exact (HBP2.out.put i (.int .u32 ((y : Nat) : Int)) (vs_lt HI0.out)))⟩

set_option maxHeartbeats 4000000 in
set_option maxRecDepth 100000 in
theorem spr_octet {S : Nat → Prop} {w : World} {X P i : Nat} {s : Wr} {vs : List Value} {x0 : Nat} (h : StR S w X s) (hB : Bx (fun b => b = P) w P vs) (hi0 : vs[i]? = some (.int .u8 ((x0 : Nat) : Int))) (hSX : ∀ b, S b → b ≠ X) (hSP : ∀ b, S b → b ≠ P) (hPX : P ≠ X) :
    Calls Tryz.prog 74 #[.pointer (some ⟨X, 0, none⟩), .pointer (some ⟨P, i, none⟩), .func (.func 75) #[] #[], .func (.func 76) #[] #[]] w fun e w' => e = .returned (.tuple #[]) ∧ StR S w' X (gR (getN 1) s) ∧ Fr (fun b => b = X ∨ b = P) w w' ∧ Bx (fun b => b = P) w' P (vs.set i (.int .u8 ((gV x0 (getN 1) s : Nat) : Int))) := by
  have HA := Lib.hid h
  have HBP := Lib.hid hB; clear hB
  have HSX := Lib.hid hSX; have HSP := Lib.hid hSP; clear hSX hSP
  have HI0 := Lib.hid hi0; clear hi0
  have hXP : X ≠ P := fun e => hPX e.symm
  obtain ⟨A, n, c, hx, h3, h4⟩ := h
  have HBX := Lib.hid hx; clear hx
  have k0 := HBX.out.c 0 _ rfl
  have k1 := HBX.out.c 1 _ rfl
  have k2 := HBX.out.c 2 _ rfl
  cases s with
  | error e =>
    have hne : (e != 0) = true := bne_iff_ne.2 (h4 e rfl)
    simp only [werr_error] at k2
    clear h3 h4
    go_enter Tryz.func74, Tryz.ntmps74
    go_wp2_with fail
    refine bodyPost_ret (v := .tuple #[]) (results_none rfl _ _ _) rfl ?_
    exact ⟨rfl, HA.out, Fr.refl _ _, (by rw [gV_of]; exact bx_same1 HBP.out HI0.out)⟩
  | ok cur =>
    simp only [werr_ok] at k2
    obtain ⟨h3, hm⟩ := h3 cur rfl
    have H3 := Lib.hid h3
    have hcl : cur.length ≤ 140737488355328 := by have := h3.len; omega
    clear h4 h3
    obtain ⟨r, hr⟩ : ∃ r, (getN 1) cur = r := ⟨_, rfl⟩
    have HR := Lib.hid hr; clear hr
    go_enter Tryz.func74, Tryz.ntmps74
    go_wp2_with fail
    refine (stc_octet H3.out r HR.out).mono ?_
    rintro e w1 ⟨A2, m2, c2, rfl, hs2, hb⟩
    have HBX1 := Lib.hid (goesBx.after HBX.out hb)
    have HBP1 := Lib.hid (goesBx.after HBP.out hb)
    have j0 := HBX1.out.c 0 _ rfl
    have j1 := HBX1.out.c 1 _ rfl
    have j2 := HBX1.out.c 2 _ rfl
    have g1 := HBX1.out.fr 1
    have g2 := HBX1.out.fr 2
    have q0 := HBP1.out.c i _ HI0.out
    have p0 := HBP1.out.fr i
    have HF := Lib.hid (frTwo (X := X) (P := P) hb (.slice A2 m2 c2) (.int .i64 (rerr r)))
    have HRD : Hid (StR S ((w1.setCell ⟨X, 1, none⟩ (.slice A2 m2 c2)).setCell ⟨X, 2, none⟩ (.int .i64 (rerr r))) X (gR (getN 1) (.ok cur))) := Lib.hid (StR.next (g := (getN 1)) HBX1.out HR.out hs2 HSX.out (fun x r' e => by have := Lc.len (lcN 1) (HR.out.trans e); omega) (fun e he => (nzN 1) _ _ (HR.out.trans he)))
    have HBP2 : Hid (Bx (fun b => b = P) ((w1.setCell ⟨X, 1, none⟩ (.slice A2 m2 c2)).setCell ⟨X, 2, none⟩ (.int .i64 (rerr r))) P vs) := Lib.hid (goesBx.keep HBP1.out (by simp) fun b hb' _ => (Below.heap_setCell _ ⟨X, 2, none⟩ _ b (by rw [hb']; exact hPX)).trans (Below.heap_setCell _ ⟨X, 1, none⟩ _ b (by rw [hb']; exact hPX)))

    have hX1 := HBX1.out.lt
    have hP1 := HBP1.out.lt
    have hz1 := hb.size
    clear k0 k1 k2 hb hs2
    cases r with
    | error er =>
      have hne : (er == 0) = false := beq_eq_false_iff_ne.2 ((nzN 1) _ _ HR.out)
      have hgv : gV x0 (getN 1) (.ok cur) = x0 := by rw [gV_ok HR.out]; rfl
      have HGV := Lib.hid hgv; clear hgv
      simp only [rval_error, rerr_error] at HRD HBP2 HF ⊢
      go_wp2_with fail
      first | refine bodyPost_end (results_none rfl _ _ _) rfl ?_ | refine bodyPost_ret (v := .tuple #[]) (results_none rfl _ _ _) rfl ?_
      exact ⟨rfl, HRD.out, HF.out, (by rw [HGV.out]; exact bx_same1 HBP2.out HI0.out)⟩
    | ok x =>
      obtain ⟨y, rest⟩ := x
      have hgv : gV x0 (getN 1) (.ok cur) = y := by rw [gV_ok HR.out]; rfl
      have HGV := Lib.hid hgv; clear hgv
      simp only [rval_ok, rerr_ok] at HRD HBP2 HF  ⊢
      go_wp2_with fail
      first | refine bodyPost_end (results_none rfl _ _ _) rfl ?_ | refine bodyPost_ret (v := .tuple #[]) (results_none rfl _ _ _) rfl ?_
      exact ⟨rfl, (HRD.out.place hPX HSP.out (.int .u8 ((y : Nat) : Int))), (Fr.trans HF.out (Fr.set (S := fun b => b = X ∨ b = P) _ (X := P) (.inr rfl) (.int .u8 ((y : Nat) : Int)))), (by rw [HGV.out]; exact (HBP2.out.put i (.int .u8 ((y : Nat) : Int)) (vs_lt HI0.out)))⟩

set_option maxHeartbeats 4000000 in
set_option maxRecDepth 100000 in
theorem spr_texts {S : Nat → Prop} {w : World} {X P i : Nat} {s : Wr} {vs : List Value} (h : StR S w X s) (hB : Bx (fun b => b = P) w P vs) (hi0 : vs[i]? = some (.slice none 0 0)) (hSX : ∀ b, S b → b ≠ X) (hSP : ∀ b, S b → b ≠ P) (hPX : P ≠ X) :
    Calls Tryz.prog 77 #[.pointer (some ⟨X, 0, none⟩), .pointer (some ⟨P, i, none⟩), .func (.func 78) #[] #[], .func (.func 79) #[] #[]] w fun e w' => e = .returned (.tuple #[]) ∧ StR S w' X (gR getTexts s) ∧ Fr (fun b => b = X ∨ b = P) w w' ∧ ∃ A1 n1 c1, Bx (fun b => b = P) w' P (vs.set i (.slice A1 n1 c1)) ∧ Arr 1 strP (fun b => w.heap.size ≤ b) w' A1 n1 c1 (gV ([] : List B) getTexts s) := by
  have HA := Lib.hid h
  have HBP := Lib.hid hB; clear hB
  have HSX := Lib.hid hSX; have HSP := Lib.hid hSP; clear hSX hSP
  have HI0 := Lib.hid hi0; clear hi0
  have hXP : X ≠ P := fun e => hPX e.symm
  obtain ⟨A, n, c, hx, h3, h4⟩ := h
  have HBX := Lib.hid hx; clear hx
  have k0 := HBX.out.c 0 _ rfl
  have k1 := HBX.out.c 1 _ rfl
  have k2 := HBX.out.c 2 _ rfl
  cases s with
  | error e =>
    have hne : (e != 0) = true := bne_iff_ne.2 (h4 e rfl)
    simp only [werr_error] at k2
    clear h3 h4
    go_enter Tryz.func77, Tryz.ntmps77
    go_wp2_with fail
    refine bodyPost_ret (v := .tuple #[]) (results_none rfl _ _ _) rfl ?_
    exact ⟨rfl, HA.out, Fr.refl _ _, none, 0, 0, (by rw [set_same HI0.out]; exact HBP.out), (by rw [gV_of]; exact Arr.nil)⟩
  | ok cur =>
    simp only [werr_ok] at k2
    obtain ⟨h3, hm⟩ := h3 cur rfl
    have H3 := Lib.hid h3
    have hcl : cur.length ≤ 140737488355328 := by have := h3.len; omega
    clear h4 h3
    obtain ⟨r, hr⟩ : ∃ r, getTexts cur = r := ⟨_, rfl⟩
    have HR := Lib.hid hr; clear hr
    go_enter Tryz.func77, Tryz.ntmps77
    go_wp2_with fail
    refine (getTexts_any H3.out hm r HR.out).mono ?_
    rintro e w1 ⟨A1, n1, c1, A2, m2, c2, rfl, hrow, hs2, hb⟩
    have HBX1 := Lib.hid (goesBx.after HBX.out hb)
    have HBP1 := Lib.hid (goesBx.after HBP.out hb)
    have j0 := HBX1.out.c 0 _ rfl
    have j1 := HBX1.out.c 1 _ rfl
    have j2 := HBX1.out.c 2 _ rfl
    have g1 := HBX1.out.fr 1
    have g2 := HBX1.out.fr 2
    have q0 := HBP1.out.c i _ HI0.out
    have p0 := HBP1.out.fr i
    have HF := Lib.hid (frTwo (X := X) (P := P) hb (.slice A2 m2 c2) (.int .i64 (rerr r)))
    have HRD : Hid (StR S ((w1.setCell ⟨X, 1, none⟩ (.slice A2 m2 c2)).setCell ⟨X, 2, none⟩ (.int .i64 (rerr r))) X (gR getTexts (.ok cur))) := Lib.hid (StR.next (g := getTexts) HBX1.out HR.out hs2 HSX.out (fun x r' e => by have := Lc.len lcTexts (HR.out.trans e); omega) (fun e he => nzTexts _ _ (HR.out.trans he)))
    have HBP2 : Hid (Bx (fun b => b = P) ((w1.setCell ⟨X, 1, none⟩ (.slice A2 m2 c2)).setCell ⟨X, 2, none⟩ (.int .i64 (rerr r))) P vs) := Lib.hid (goesBx.keep HBP1.out (by simp) fun b hb' _ => (Below.heap_setCell _ ⟨X, 2, none⟩ _ b (by rw [hb']; exact hPX)).trans (Below.heap_setCell _ ⟨X, 1, none⟩ _ b (by rw [hb']; exact hPX)))
    have HRW : Hid (Arr 1 strP (fun b => w.heap.size ≤ b) w1 A1 n1 c1 (rval [] r)) := Lib.hid (goesArr.mono (hrow.arr (by decide)) fun b hb _ => hb.1)
    clear hrow
    have hX0 := HBX.out.lt
    have hP0 := HBP.out.lt
    have hX1 := HBX1.out.lt
    have hP1 := HBP1.out.lt
    have hz1 := hb.size
    clear k0 k1 k2 hb hs2
    cases r with
    | error er =>
      have hne : (er == 0) = false := beq_eq_false_iff_ne.2 (nzTexts _ _ HR.out)
      have hgv : gV ([] : List B) getTexts (.ok cur) = [] := by rw [gV_ok HR.out]; rfl
      have HGV := Lib.hid hgv; clear hgv
      simp only [rval_error, rerr_error] at HRD HBP2 HF ⊢
      go_wp2_with fail
      first | refine bodyPost_end (results_none rfl _ _ _) rfl ?_ | refine bodyPost_ret (v := .tuple #[]) (results_none rfl _ _ _) rfl ?_
      exact ⟨rfl, HRD.out, HF.out, none, 0, 0, (by rw [set_same HI0.out]; exact HBP2.out), (by rw [HGV.out]; exact Arr.nil)⟩
    | ok x =>
      obtain ⟨y, rest⟩ := x
      have hgv : gV ([] : List B) getTexts (.ok cur) = y := by rw [gV_ok HR.out]; rfl
      have HGV := Lib.hid hgv; clear hgv
      simp only [rval_ok, rerr_ok] at HRD HBP2 HF HRW ⊢
      go_wp2_with fail
      first | refine bodyPost_end (results_none rfl _ _ _) rfl ?_ | refine bodyPost_ret (v := .tuple #[]) (results_none rfl _ _ _) rfl ?_
      refine ⟨rfl, (HRD.out.place hPX HSP.out (.slice A1 n1 c1)), (Fr.trans HF.out (Fr.set (S := fun b => b = X ∨ b = P) _ (X := P) (.inr rfl) (.slice A1 n1 c1))), A1, n1, c1, (HBP2.out.put i (.slice A1 n1 c1) (vs_lt HI0.out)), ?_⟩
      rw [HGV.out]
      exact goesArr.keep HRW.out (by simp) fun b hb' hl' => ((Below.heap_setCell _ ⟨P, i, none⟩ _ b (by have hb' : w.heap.size ≤ b := hb'; show b ≠ P; omega)).trans ((Below.heap_setCell _ ⟨X, 2, none⟩ _ b (by have hb' : w.heap.size ≤ b := hb'; show b ≠ X; omega)).trans (Below.heap_setCell _ ⟨X, 1, none⟩ _ b (by have hb' : w.heap.size ≤ b := hb'; show b ≠ X; omega))))

set_option maxHeartbeats 4000000 in
set_option maxRecDepth 100000 in
theorem spr_multis {S : Nat → Prop} {w : World} {X P i : Nat} {s : Wr} {vs : List Value} (h : StR S w X s) (hB : Bx (fun b => b = P) w P vs) (hi0 : vs[i]? = some (.slice none 0 0)) (hSX : ∀ b, S b → b ≠ X) (hSP : ∀ b, S b → b ≠ P) (hPX : P ≠ X) :
    Calls Tryz.prog 52 #[.pointer (some ⟨X, 0, none⟩), .pointer (some ⟨P, i, none⟩), .func (.func 53) #[] #[], .func (.func 54) #[] #[]] w fun e w' => e = .returned (.tuple #[]) ∧ StR S w' X (gR (getL multiR) s) ∧ Fr (fun b => b = X ∨ b = P) w w' ∧ ∃ A1 n1 c1, Bx (fun b => b = P) w' P (vs.set i (.slice A1 n1 c1)) ∧ Arr 2 (multiP (fun b => w.heap.size ≤ b) w') (fun b => w.heap.size ≤ b) w' A1 n1 c1 (gV ([] : List (B × List B)) (getL multiR) s) := by
  have HA := Lib.hid h
  have HBP := Lib.hid hB; clear hB
  have HSX := Lib.hid hSX; have HSP := Lib.hid hSP; clear hSX hSP
  have HI0 := Lib.hid hi0; clear hi0
  have hXP : X ≠ P := fun e => hPX e.symm
  obtain ⟨A, n, c, hx, h3, h4⟩ := h
  have HBX := Lib.hid hx; clear hx
  have k0 := HBX.out.c 0 _ rfl
  have k1 := HBX.out.c 1 _ rfl
  have k2 := HBX.out.c 2 _ rfl
  cases s with
  | error e =>
    have hne : (e != 0) = true := bne_iff_ne.2 (h4 e rfl)
    simp only [werr_error] at k2
    clear h3 h4
    go_enter Tryz.func52, Tryz.ntmps52
    go_wp2_with fail
    refine bodyPost_ret (v := .tuple #[]) (results_none rfl _ _ _) rfl ?_
    exact ⟨rfl, HA.out, Fr.refl _ _, none, 0, 0, (by rw [set_same HI0.out]; exact HBP.out), (by rw [gV_of]; exact Arr.nil)⟩
  | ok cur =>
    simp only [werr_ok] at k2
    obtain ⟨h3, hm⟩ := h3 cur rfl
    have H3 := Lib.hid h3
    have hcl : cur.length ≤ 140737488355328 := by have := h3.len; omega
    clear h4 h3
    obtain ⟨r, hr⟩ : ∃ r, (getL multiR) cur = r := ⟨_, rfl⟩
    have HR := Lib.hid hr; clear hr
    go_enter Tryz.func52, Tryz.ntmps52
    go_wp2_with fail
    refine (getMultis_any H3.out hm r HR.out).mono ?_
    rintro e w1 ⟨A1, n1, c1, A2, m2, c2, rfl, hrow, hs2, hb⟩
    have HBX1 := Lib.hid (goesBx.after HBX.out hb)
    have HBP1 := Lib.hid (goesBx.after HBP.out hb)
    have j0 := HBX1.out.c 0 _ rfl
    have j1 := HBX1.out.c 1 _ rfl
    have j2 := HBX1.out.c 2 _ rfl
    have g1 := HBX1.out.fr 1
    have g2 := HBX1.out.fr 2
    have q0 := HBP1.out.c i _ HI0.out
    have p0 := HBP1.out.fr i
    have HF := Lib.hid (frTwo (X := X) (P := P) hb (.slice A2 m2 c2) (.int .i64 (rerr r)))
    have HRD : Hid (StR S ((w1.setCell ⟨X, 1, none⟩ (.slice A2 m2 c2)).setCell ⟨X, 2, none⟩ (.int .i64 (rerr r))) X (gR (getL multiR) (.ok cur))) := Lib.hid (StR.next (g := (getL multiR)) HBX1.out HR.out hs2 HSX.out (fun x r' e => by have := Lc.len (lcL lcMulti) (HR.out.trans e); omega) (fun e he => (nzL nzMulti) _ _ (HR.out.trans he)))
    have HBP2 : Hid (Bx (fun b => b = P) ((w1.setCell ⟨X, 1, none⟩ (.slice A2 m2 c2)).setCell ⟨X, 2, none⟩ (.int .i64 (rerr r))) P vs) := Lib.hid (goesBx.keep HBP1.out (by simp) fun b hb' _ => (Below.heap_setCell _ ⟨X, 2, none⟩ _ b (by rw [hb']; exact hPX)).trans (Below.heap_setCell _ ⟨X, 1, none⟩ _ b (by rw [hb']; exact hPX)))
    have HRW : Hid (Arr 2 (multiP (fun b => w.heap.size ≤ b) w1) (fun b => w.heap.size ≤ b) w1 A1 n1 c1 (rval [] r)) := Lib.hid (hrow)
    clear hrow
    have hX0 := HBX.out.lt
    have hP0 := HBP.out.lt
    have hX1 := HBX1.out.lt
    have hP1 := HBP1.out.lt
    have hz1 := hb.size
    clear k0 k1 k2 hb hs2
    cases r with
    | error er =>
      have hne : (er == 0) = false := beq_eq_false_iff_ne.2 ((nzL nzMulti) _ _ HR.out)
      have hgv : gV ([] : List (B × List B)) (getL multiR) (.ok cur) = [] := by rw [gV_ok HR.out]; rfl
      have HGV := Lib.hid hgv; clear hgv
      simp only [rval_error, rerr_error] at HRD HBP2 HF ⊢
      go_wp2_with fail
      first | refine bodyPost_end (results_none rfl _ _ _) rfl ?_ | refine bodyPost_ret (v := .tuple #[]) (results_none rfl _ _ _) rfl ?_
      exact ⟨rfl, HRD.out, HF.out, none, 0, 0, (by rw [set_same HI0.out]; exact HBP2.out), (by rw [HGV.out]; exact Arr.nil)⟩
    | ok x =>
      obtain ⟨y, rest⟩ := x
      have hgv : gV ([] : List (B × List B)) (getL multiR) (.ok cur) = y := by rw [gV_ok HR.out]; rfl
      have HGV := Lib.hid hgv; clear hgv
      simp only [rval_ok, rerr_ok] at HRD HBP2 HF HRW ⊢
      go_wp2_with fail
      first | refine bodyPost_end (results_none rfl _ _ _) rfl ?_ | refine bodyPost_ret (v := .tuple #[]) (results_none rfl _ _ _) rfl ?_
      refine ⟨rfl, (HRD.out.place hPX HSP.out (.slice A1 n1 c1)), (Fr.trans HF.out (Fr.set (S := fun b => b = X ∨ b = P) _ (X := P) (.inr rfl) (.slice A1 n1 c1))), A1, n1, c1, (HBP2.out.put i (.slice A1 n1 c1) (vs_lt HI0.out)), ?_⟩
      rw [HGV.out]
      exact goesArrM.keep HRW.out (by simp) fun b hb' hl' => ((Below.heap_setCell _ ⟨P, i, none⟩ _ b (by have hb' : w.heap.size ≤ b := hb'; show b ≠ P; omega)).trans ((Below.heap_setCell _ ⟨X, 2, none⟩ _ b (by have hb' : w.heap.size ≤ b := hb'; show b ≠ X; omega)).trans (Below.heap_setCell _ ⟨X, 1, none⟩ _ b (by have hb' : w.heap.size ≤ b := hb'; show b ≠ X; omega))))

set_option maxHeartbeats 4000000 in
set_option maxRecDepth 100000 in
theorem spr_value {S : Nat → Prop} {w : World} {X P i : Nat} {s : Wr} {vs : List Value} (h : StR S w X s) (hB : Bx (fun b => b = P) w P vs) (hi0 : vs[i]? = some (.int .i64 0)) (hi1 : vs[i + 1]? = some (.slice none 0 0)) (hSX : ∀ b, S b → b ≠ X) (hSP : ∀ b, S b → b ≠ P) (hPX : P ≠ X) :
    Calls Tryz.prog 60 #[.pointer (some ⟨X, 0, none⟩), .pointer (some ⟨P, i, none⟩), .func (.func 61) #[] #[], .func (.func 62) #[] #[]] w fun e w' => e = .returned (.tuple #[]) ∧ StR S w' X (gR getValue s) ∧ Fr (fun b => b = X ∨ b = P) w w' ∧ ∃ A1 n1 c1, Bx (fun b => b = P) w' P ((vs.set i (.int .i64 (gV Val.none getValue s).kind)).set (i + 1) (.slice A1 n1 c1)) ∧ Sl (fun b => w.heap.size ≤ b) w' A1 n1 c1 (gV Val.none getValue s).bytes := by
  have HA := Lib.hid h
  have HBP := Lib.hid hB; clear hB
  have HSX := Lib.hid hSX; have HSP := Lib.hid hSP; clear hSX hSP
  have HI0 := Lib.hid hi0; clear hi0
  have HI1 := Lib.hid hi1; clear hi1
  have hXP : X ≠ P := fun e => hPX e.symm
  obtain ⟨A, n, c, hx, h3, h4⟩ := h
  have HBX := Lib.hid hx; clear hx
  have k0 := HBX.out.c 0 _ rfl
  have k1 := HBX.out.c 1 _ rfl
  have k2 := HBX.out.c 2 _ rfl
  cases s with
  | error e =>
    have hne : (e != 0) = true := bne_iff_ne.2 (h4 e rfl)
    simp only [werr_error] at k2
    clear h3 h4
    go_enter Tryz.func60, Tryz.ntmps60
    go_wp2_with fail
    refine bodyPost_ret (v := .tuple #[]) (results_none rfl _ _ _) rfl ?_
    exact ⟨rfl, HA.out, Fr.refl _ _, none, 0, 0, (by rw [gV_of]; exact bx_same2 HBP.out HI0.out HI1.out), (by rw [gV_of]; exact Sl.nil)⟩
  | ok cur =>
    simp only [werr_ok] at k2
    obtain ⟨h3, hm⟩ := h3 cur rfl
    have H3 := Lib.hid h3
    have hcl : cur.length ≤ 140737488355328 := by have := h3.len; omega
    clear h4 h3
    obtain ⟨r, hr⟩ : ∃ r, getValue cur = r := ⟨_, rfl⟩
    have HR := Lib.hid hr; clear hr
    go_enter Tryz.func60, Tryz.ntmps60
    go_wp2_with fail
    refine (getValue_any H3.out hm r HR.out).mono ?_
    rintro e w1 ⟨A1, n1, c1, A2, m2, c2, rfl, hrow, hs2, hb⟩
    have HBX1 := Lib.hid (goesBx.after HBX.out hb)
    have HBP1 := Lib.hid (goesBx.after HBP.out hb)
    have j0 := HBX1.out.c 0 _ rfl
    have j1 := HBX1.out.c 1 _ rfl
    have j2 := HBX1.out.c 2 _ rfl
    have g1 := HBX1.out.fr 1
    have g2 := HBX1.out.fr 2
    have q0 := HBP1.out.c i _ HI0.out
    have p0 := HBP1.out.fr i
    have q1 := HBP1.out.c (i + 1) _ HI1.out
    have p1 := HBP1.out.fr (i + 1)
    have HF := Lib.hid (frTwo (X := X) (P := P) hb (.slice A2 m2 c2) (.int .i64 (rerr r)))
    have HRD : Hid (StR S ((w1.setCell ⟨X, 1, none⟩ (.slice A2 m2 c2)).setCell ⟨X, 2, none⟩ (.int .i64 (rerr r))) X (gR getValue (.ok cur))) := Lib.hid (StR.next (g := getValue) HBX1.out HR.out hs2 HSX.out (fun x r' e => by have := Lc.len lcValue (HR.out.trans e); omega) (fun e he => nzValue _ _ (HR.out.trans he)))
    have HBP2 : Hid (Bx (fun b => b = P) ((w1.setCell ⟨X, 1, none⟩ (.slice A2 m2 c2)).setCell ⟨X, 2, none⟩ (.int .i64 (rerr r))) P vs) := Lib.hid (goesBx.keep HBP1.out (by simp) fun b hb' _ => (Below.heap_setCell _ ⟨X, 2, none⟩ _ b (by rw [hb']; exact hPX)).trans (Below.heap_setCell _ ⟨X, 1, none⟩ _ b (by rw [hb']; exact hPX)))
    have HRW : Hid (Sl (fun b => w.heap.size ≤ b) w1 A1 n1 c1 (rval Val.none r).bytes) := Lib.hid (hrow)
    clear hrow
    have hX0 := HBX.out.lt
    have hP0 := HBP.out.lt
    have hX1 := HBX1.out.lt
    have hP1 := HBP1.out.lt
    have hz1 := hb.size
    clear k0 k1 k2 hb hs2
    cases r with
    | error er =>
      have hne : (er == 0) = false := beq_eq_false_iff_ne.2 (nzValue _ _ HR.out)
      have hgv : gV Val.none getValue (.ok cur) = Val.none := by rw [gV_ok HR.out]; rfl
      have HGV := Lib.hid hgv; clear hgv
      simp only [rval_error, rerr_error] at HRD HBP2 HF ⊢
      go_wp2_with fail
      first | refine bodyPost_end (results_none rfl _ _ _) rfl ?_ | refine bodyPost_ret (v := .tuple #[]) (results_none rfl _ _ _) rfl ?_
      exact ⟨rfl, (HRD.out.after (Below.alloc (Below.refl _ _) (Nat.le_refl _) _)), (Fr.trans HF.out (Fr.of_below (Below.alloc (Below.refl _ _) (Nat.le_refl _) _))), none, 0, 0, (by rw [HGV.out]; exact bx_same2 (HBP2.out.after (Below.alloc (Below.refl _ _) (Nat.le_refl _) _)) HI0.out HI1.out), (by rw [HGV.out]; exact Sl.nil)⟩
    | ok x =>
      obtain ⟨y, rest⟩ := x
      have hgv : gV Val.none getValue (.ok cur) = y := by rw [gV_ok HR.out]; rfl
      have HGV := Lib.hid hgv; clear hgv
      simp only [rval_ok, rerr_ok] at HRD HBP2 HF HRW ⊢
      go_wp2_with fail
      first | refine bodyPost_end (results_none rfl _ _ _) rfl ?_ | refine bodyPost_ret (v := .tuple #[]) (results_none rfl _ _ _) rfl ?_
      refine ⟨rfl, (((HRD.out.place hPX HSP.out (.int .i64 (y).kind)).place hPX HSP.out (.slice A1 n1 c1)).after (Below.alloc (Below.refl _ _) (Nat.le_refl _) _)), (Fr.trans (Fr.trans (Fr.trans HF.out (Fr.set (S := fun b => b = X ∨ b = P) _ (X := P) (.inr rfl) (.int .i64 (y).kind))) (Fr.set (S := fun b => b = X ∨ b = P) _ (X := P) (.inr rfl) (.slice A1 n1 c1))) (Fr.of_below (Below.alloc (Below.refl _ _) (Nat.le_refl _) _))), A1, n1, c1, (by rw [HGV.out]; exact (((HBP2.out.put i (.int .i64 (y).kind) (vs_lt HI0.out)).put (i + 1) (.slice A1 n1 c1) (by rw [List.length_set]; exact vs_lt HI1.out)).after (Below.alloc (Below.refl _ _) (Nat.le_refl _) _))), ?_⟩
      rw [HGV.out]
      exact goesSl.keep HRW.out (by simp) fun b hb' hl' => (((Below.alloc (Below.refl _ _) (Nat.le_refl _) _).block b (by simpa using hl')).trans ((Below.heap_setCell _ ⟨P, i + 1, none⟩ _ b (by have hb' : w.heap.size ≤ b := hb'; show b ≠ P; omega)).trans ((Below.heap_setCell _ ⟨P, i, none⟩ _ b (by have hb' : w.heap.size ≤ b := hb'; show b ≠ P; omega)).trans ((Below.heap_setCell _ ⟨X, 2, none⟩ _ b (by have hb' : w.heap.size ≤ b := hb'; show b ≠ X; omega)).trans (Below.heap_setCell _ ⟨X, 1, none⟩ _ b (by have hb' : w.heap.size ≤ b := hb'; show b ≠ X; omega))))))

set_option maxHeartbeats 4000000 in
set_option maxRecDepth 100000 in
theorem spr_inet {S : Nat → Prop} {w : World} {X P i : Nat} {s : Wr} {vs : List Value} (h : StR S w X s) (hB : Bx (fun b => b = P) w P vs) (hi0 : vs[i]? = some (.slice none 0 0)) (hi1 : vs[i + 1]? = some (.int .u32 0)) (hSX : ∀ b, S b → b ≠ X) (hSP : ∀ b, S b → b ≠ P) (hPX : P ≠ X) :
    Calls Tryz.prog 91 #[.pointer (some ⟨X, 0, none⟩), .pointer (some ⟨P, i, none⟩), .func (.func 92) #[] #[], .func (.func 93) #[] #[]] w fun e w' => e = .returned (.tuple #[]) ∧ StR S w' X (gR getInet s) ∧ Fr (fun b => b = X ∨ b = P) w w' ∧ ∃ A1 n1 c1, Bx (fun b => b = P) w' P ((vs.set i (.slice A1 n1 c1)).set (i + 1) (.int .u32 (((gV Adr.none getInet s).port : Nat) : Int))) ∧ Sl (fun b => w.heap.size ≤ b) w' A1 n1 c1 (gV Adr.none getInet s).addr := by
  have HA := Lib.hid h
  have HBP := Lib.hid hB; clear hB
  have HSX := Lib.hid hSX; have HSP := Lib.hid hSP; clear hSX hSP
  have HI0 := Lib.hid hi0; clear hi0
  have HI1 := Lib.hid hi1; clear hi1
  have hXP : X ≠ P := fun e => hPX e.symm
  obtain ⟨A, n, c, hx, h3, h4⟩ := h
  have HBX := Lib.hid hx; clear hx
  have k0 := HBX.out.c 0 _ rfl
  have k1 := HBX.out.c 1 _ rfl
  have k2 := HBX.out.c 2 _ rfl
  cases s with
  | error e =>
    have hne : (e != 0) = true := bne_iff_ne.2 (h4 e rfl)
    simp only [werr_error] at k2
    clear h3 h4
    go_enter Tryz.func91, Tryz.ntmps91
    go_wp2_with fail
    refine bodyPost_ret (v := .tuple #[]) (results_none rfl _ _ _) rfl ?_
    exact ⟨rfl, HA.out, Fr.refl _ _, none, 0, 0, (by rw [gV_of]; exact bx_same2 HBP.out HI0.out HI1.out), (by rw [gV_of]; exact Sl.nil)⟩
  | ok cur =>
    simp only [werr_ok] at k2
    obtain ⟨h3, hm⟩ := h3 cur rfl
    have H3 := Lib.hid h3
    have hcl : cur.length ≤ 140737488355328 := by have := h3.len; omega
    clear h4 h3
    obtain ⟨r, hr⟩ : ∃ r, getInet cur = r := ⟨_, rfl⟩
    have HR := Lib.hid hr; clear hr
    go_enter Tryz.func91, Tryz.ntmps91
    go_wp2_with fail
    refine (getInet_any H3.out hm r HR.out).mono ?_
    rintro e w1 ⟨A1, n1, c1, A2, m2, c2, rfl, hrow, hs2, hb⟩
    have HBX1 := Lib.hid (goesBx.after HBX.out hb)
    have HBP1 := Lib.hid (goesBx.after HBP.out hb)
    have j0 := HBX1.out.c 0 _ rfl
    have j1 := HBX1.out.c 1 _ rfl
    have j2 := HBX1.out.c 2 _ rfl
    have g1 := HBX1.out.fr 1
    have g2 := HBX1.out.fr 2
    have q0 := HBP1.out.c i _ HI0.out
    have p0 := HBP1.out.fr i
    have q1 := HBP1.out.c (i + 1) _ HI1.out
    have p1 := HBP1.out.fr (i + 1)
    have HF := Lib.hid (frTwo (X := X) (P := P) hb (.slice A2 m2 c2) (.int .i64 (rerr r)))
    have HRD : Hid (StR S ((w1.setCell ⟨X, 1, none⟩ (.slice A2 m2 c2)).setCell ⟨X, 2, none⟩ (.int .i64 (rerr r))) X (gR getInet (.ok cur))) := Lib.hid (StR.next (g := getInet) HBX1.out HR.out hs2 HSX.out (fun x r' e => by have := Lc.len lcInet (HR.out.trans e); omega) (fun e he => nzInet _ _ (HR.out.trans he)))
    have HBP2 : Hid (Bx (fun b => b = P) ((w1.setCell ⟨X, 1, none⟩ (.slice A2 m2 c2)).setCell ⟨X, 2, none⟩ (.int .i64 (rerr r))) P vs) := Lib.hid (goesBx.keep HBP1.out (by simp) fun b hb' _ => (Below.heap_setCell _ ⟨X, 2, none⟩ _ b (by rw [hb']; exact hPX)).trans (Below.heap_setCell _ ⟨X, 1, none⟩ _ b (by rw [hb']; exact hPX)))
    have HRW : Hid (Sl (fun b => w.heap.size ≤ b) w1 A1 n1 c1 (rval Adr.none r).addr) := Lib.hid (hrow)
    clear hrow
    have hX0 := HBX.out.lt
    have hP0 := HBP.out.lt
    have hX1 := HBX1.out.lt
    have hP1 := HBP1.out.lt
    have hz1 := hb.size
    clear k0 k1 k2 hb hs2
    cases r with
    | error er =>
      have hne : (er == 0) = false := beq_eq_false_iff_ne.2 (nzInet _ _ HR.out)
      have hgv : gV Adr.none getInet (.ok cur) = Adr.none := by rw [gV_ok HR.out]; rfl
      have HGV := Lib.hid hgv; clear hgv
      simp only [rval_error, rerr_error] at HRD HBP2 HF ⊢
      go_wp2_with fail
      first | refine bodyPost_end (results_none rfl _ _ _) rfl ?_ | refine bodyPost_ret (v := .tuple #[]) (results_none rfl _ _ _) rfl ?_
      exact ⟨rfl, (HRD.out.after (Below.alloc (Below.refl _ _) (Nat.le_refl _) _)), (Fr.trans HF.out (Fr.of_below (Below.alloc (Below.refl _ _) (Nat.le_refl _) _))), none, 0, 0, (by rw [HGV.out]; exact bx_same2 (HBP2.out.after (Below.alloc (Below.refl _ _) (Nat.le_refl _) _)) HI0.out HI1.out), (by rw [HGV.out]; exact Sl.nil)⟩
    | ok x =>
      obtain ⟨y, rest⟩ := x
      have hgv : gV Adr.none getInet (.ok cur) = y := by rw [gV_ok HR.out]; rfl
      have HGV := Lib.hid hgv; clear hgv
      simp only [rval_ok, rerr_ok] at HRD HBP2 HF HRW ⊢
      go_wp2_with fail
      first | refine bodyPost_end (results_none rfl _ _ _) rfl ?_ | refine bodyPost_ret (v := .tuple #[]) (results_none rfl _ _ _) rfl ?_
      refine ⟨rfl, (((HRD.out.place hPX HSP.out (.slice A1 n1 c1)).place hPX HSP.out (.int .u32 (((y).port : Nat) : Int))).after (Below.alloc (Below.refl _ _) (Nat.le_refl _) _)), (Fr.trans (Fr.trans (Fr.trans HF.out (Fr.set (S := fun b => b = X ∨ b = P) _ (X := P) (.inr rfl) (.slice A1 n1 c1))) (Fr.set (S := fun b => b = X ∨ b = P) _ (X := P) (.inr rfl) (.int .u32 (((y).port : Nat) : Int)))) (Fr.of_below (Below.alloc (Below.refl _ _) (Nat.le_refl _) _))), A1, n1, c1, (by rw [HGV.out]; exact (((HBP2.out.put i (.slice A1 n1 c1) (vs_lt HI0.out)).put (i + 1) (.int .u32 (((y).port : Nat) : Int)) (by rw [List.length_set]; exact vs_lt HI1.out)).after (Below.alloc (Below.refl _ _) (Nat.le_refl _) _))), ?_⟩
      rw [HGV.out]
      exact goesSl.keep HRW.out (by simp) fun b hb' hl' => (((Below.alloc (Below.refl _ _) (Nat.le_refl _) _).block b (by simpa using hl')).trans ((Below.heap_setCell _ ⟨P, i + 1, none⟩ _ b (by have hb' : w.heap.size ≤ b := hb'; show b ≠ P; omega)).trans ((Below.heap_setCell _ ⟨P, i, none⟩ _ b (by have hb' : w.heap.size ≤ b := hb'; show b ≠ P; omega)).trans ((Below.heap_setCell _ ⟨X, 2, none⟩ _ b (by have hb' : w.heap.size ≤ b := hb'; show b ≠ X; omega)).trans (Below.heap_setCell _ ⟨X, 1, none⟩ _ b (by have hb' : w.heap.size ≤ b := hb'; show b ≠ X; omega))))))

set_option maxHeartbeats 4000000 in
set_option maxRecDepth 100000 in
theorem spr_all {S : Nat → Prop} {w : World} {X P i : Nat} {s : Wr} {vs : List Value} (h : StR S w X s) (hB : Bx (fun b => b = P) w P vs) (hi0 : vs[i]? = some (.slice none 0 0)) (hSX : ∀ b, S b → b ≠ X) (hSP : ∀ b, S b → b ≠ P) (hPX : P ≠ X) :
    Calls Tryz.prog 86 #[.pointer (some ⟨X, 0, none⟩), .pointer (some ⟨P, i, none⟩), .func (.func 87) #[] #[], .func (.func 89) #[] #[]] w fun e w' => e = .returned (.tuple #[]) ∧ StR S w' X (gR allR s) ∧ Fr (fun b => b = X ∨ b = P) w w' ∧ ∃ A1 n1 c1, Bx (fun b => b = P) w' P (vs.set i (.slice A1 n1 c1)) ∧ Sl (fun b => w.heap.size ≤ b) w' A1 n1 c1 (gV ([] : B) allR s) := by
  have HA := Lib.hid h
  have HBP := Lib.hid hB; clear hB
  have HSX := Lib.hid hSX; have HSP := Lib.hid hSP; clear hSX hSP
  have HI0 := Lib.hid hi0; clear hi0
  have hXP : X ≠ P := fun e => hPX e.symm
  obtain ⟨A, n, c, hx, h3, h4⟩ := h
  have HBX := Lib.hid hx; clear hx
  have k0 := HBX.out.c 0 _ rfl
  have k1 := HBX.out.c 1 _ rfl
  have k2 := HBX.out.c 2 _ rfl
  cases s with
  | error e =>
    have hne : (e != 0) = true := bne_iff_ne.2 (h4 e rfl)
    simp only [werr_error] at k2
    clear h3 h4
    go_enter Tryz.func86, Tryz.ntmps86
    go_wp2_with fail
    refine bodyPost_ret (v := .tuple #[]) (results_none rfl _ _ _) rfl ?_
    exact ⟨rfl, HA.out, Fr.refl _ _, none, 0, 0, (by rw [set_same HI0.out]; exact HBP.out), (by rw [gV_of]; exact Sl.nil)⟩
  | ok cur =>
    simp only [werr_ok] at k2
    obtain ⟨h3, hm⟩ := h3 cur rfl
    have H3 := Lib.hid h3
    have hcl : cur.length ≤ 140737488355328 := by have := h3.len; omega
    clear h4 h3
    obtain ⟨r, hr⟩ : ∃ r, allR cur = r := ⟨_, rfl⟩
    have HR := Lib.hid hr; clear hr
    go_enter Tryz.func86, Tryz.ntmps86
    go_wp2_with fail
    refine (stc_all H3.out hm r HR.out).mono ?_
    rintro e w1 ⟨A1, n1, c1, A2, m2, c2, rfl, hrow, hs2, hb⟩
    have HBX1 := Lib.hid (goesBx.after HBX.out hb)
    have HBP1 := Lib.hid (goesBx.after HBP.out hb)
    have j0 := HBX1.out.c 0 _ rfl
    have j1 := HBX1.out.c 1 _ rfl
    have j2 := HBX1.out.c 2 _ rfl
    have g1 := HBX1.out.fr 1
    have g2 := HBX1.out.fr 2
    have q0 := HBP1.out.c i _ HI0.out
    have p0 := HBP1.out.fr i
    have HF := Lib.hid (frTwo (X := X) (P := P) hb (.slice A2 m2 c2) (.int .i64 (rerr r)))
    have HRD : Hid (StR S ((w1.setCell ⟨X, 1, none⟩ (.slice A2 m2 c2)).setCell ⟨X, 2, none⟩ (.int .i64 (rerr r))) X (gR allR (.ok cur))) := Lib.hid (StR.next (g := allR) HBX1.out HR.out hs2 HSX.out (fun x r' e => by have h := HR.out.trans e; unfold allR at h; injection h with h; injection h with _ h; rw [← h]; exact Nat.zero_le _) (fun e he => by have h := HR.out.trans he; cases h))
    have HBP2 : Hid (Bx (fun b => b = P) ((w1.setCell ⟨X, 1, none⟩ (.slice A2 m2 c2)).setCell ⟨X, 2, none⟩ (.int .i64 (rerr r))) P vs) := Lib.hid (goesBx.keep HBP1.out (by simp) fun b hb' _ => (Below.heap_setCell _ ⟨X, 2, none⟩ _ b (by rw [hb']; exact hPX)).trans (Below.heap_setCell _ ⟨X, 1, none⟩ _ b (by rw [hb']; exact hPX)))
    have HRW : Hid (Sl (fun b => w.heap.size ≤ b) w1 A1 n1 c1 (rval [] r)) := Lib.hid (hrow)
    clear hrow
    have hX0 := HBX.out.lt
    have hP0 := HBP.out.lt
    have hX1 := HBX1.out.lt
    have hP1 := HBP1.out.lt
    have hz1 := hb.size
    clear k0 k1 k2 hb hs2
    cases r with
    | error er =>
      have hne : (er == 0) = false := beq_eq_false_iff_ne.2 (by have h := HR.out; cases h)
      have hgv : gV ([] : B) allR (.ok cur) = [] := by rw [gV_ok HR.out]; rfl
      have HGV := Lib.hid hgv; clear hgv
      simp only [rval_error, rerr_error] at HRD HBP2 HF ⊢
      go_wp2_with fail
      first | refine bodyPost_end (results_none rfl _ _ _) rfl ?_ | refine bodyPost_ret (v := .tuple #[]) (results_none rfl _ _ _) rfl ?_
      exact ⟨rfl, HRD.out, HF.out, none, 0, 0, (by rw [set_same HI0.out]; exact HBP2.out), (by rw [HGV.out]; exact Sl.nil)⟩
    | ok x =>
      obtain ⟨y, rest⟩ := x
      have hgv : gV ([] : B) allR (.ok cur) = y := by rw [gV_ok HR.out]; rfl
      have HGV := Lib.hid hgv; clear hgv
      simp only [rval_ok, rerr_ok] at HRD HBP2 HF HRW ⊢
      go_wp2_with fail
      first | refine bodyPost_end (results_none rfl _ _ _) rfl ?_ | refine bodyPost_ret (v := .tuple #[]) (results_none rfl _ _ _) rfl ?_
      refine ⟨rfl, (HRD.out.place hPX HSP.out (.slice A1 n1 c1)), (Fr.trans HF.out (Fr.set (S := fun b => b = X ∨ b = P) _ (X := P) (.inr rfl) (.slice A1 n1 c1))), A1, n1, c1, (HBP2.out.put i (.slice A1 n1 c1) (vs_lt HI0.out)), ?_⟩
      rw [HGV.out]
      exact goesSl.keep HRW.out (by simp) fun b hb' hl' => ((Below.heap_setCell _ ⟨P, i, none⟩ _ b (by have hb' : w.heap.size ≤ b := hb'; show b ≠ P; omega)).trans ((Below.heap_setCell _ ⟨X, 2, none⟩ _ b (by have hb' : w.heap.size ≤ b := hb'; show b ≠ X; omega)).trans (Below.heap_setCell _ ⟨X, 1, none⟩ _ b (by have hb' : w.heap.size ≤ b := hb'; show b ≠ X; omega))))
end Go.Proofs.Sb
