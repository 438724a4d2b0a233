/- Walks over signalboxref04.Get. Conditions: lengths up to 2^47. (written by gen_ref4get.py) -/
import Derived.Test.YtpgcadicamnpkaaDoorOpth
import Derived.Test.YtpgcadicamnpkaaDoorRoleo
import Derived.Test.YtpgcadicamnpkaaDoorOptk
import Derived.Test.YtpgcadicamnpkaaDoorRefb
set_option linter.unusedVariables false
set_option linter.unusedSimpArgs false
namespace Sb
theorem fin_err {n id m k : Nat} {hd : B × B} {c0 rest : B} {l : List (B × Opt)} {e : Int} (h : getsM (kidR (getO n) id) k c0 = .ok (l, rest)) (hk : k < m) (he : kidR (getO n) id rest = .error e) : finO n id m hd (.ok c0) = .error e := by
  simp only [finO, getsM_stop hk h he]
theorem fin_ok {n id m : Nat} {hd : B × B} {c0 rest : B} {l : List (B × Opt)} (h : getsM (kidR (getO n) id) m c0 = .ok (l, rest)) : finO n id m hd (.ok c0) = .ok (mkO id hd l, rest) := by
  simp only [finO, h]
def kidG (s : B) : Res Opt → Res (B × Opt)
  | .error e => .error e
  | .ok (x, r2) => .ok ((s, x), r2)
theorem kid4_no {n id : Nat} {rs : B} (h48 : ¬ id = 48) {r : Res Opt} (h : getO n rs = r) : kidR (getO n) id rs = kidG [] r := by
  subst h
  rw [kidR_no h48]
  cases getO n rs <;> rfl
theorem kid4_48 {n : Nat} {rs s rs2 : B} (hs : getText rs = .ok (s, rs2)) {r : Res Opt} (h : getO n rs2 = r) : kidR (getO n) 48 rs = kidG s r := by
  subst h
  unfold kidR bothR nameR
  rw [if_pos rfl, hs]
  simp only
  cases getO n rs2 <;> rfl
theorem kid4_48e {n : Nat} {rs : B} {e : Int} (hs : getText rs = .error e) : kidR (getO n) 48 rs = .error e := by
  unfold kidR bothR nameR
  rw [if_pos rfl, hs]
theorem getText_e {b : B} {e : Int} (h : getText b = .error e) : e ≠ 0 := gt_ne h
end Sb
namespace Go.Proofs.Sb
open Go.RowKit _root_.Sb

/-- what signalboxref04.Get does, so many levels deep -/
def Get4 (n : Nat) : Prop := ∀ {S : Nat → Prop} {A : Option Addr} {m c a : Nat} {bs : B} {w : World} {deep : Int}, Sl S w A m c bs → m ≤ 140737488355328 → a ≤ m → deep + n = 21 → 1 ≤ deep → ∀ r : Res Opt, getO n (bs.drop a) = r → Calls Tryd.prog 17 #[.slice A m c, .int .i64 (a : Int), .int .i64 deep] w fun e w' => ∃ A1 n1 c1 A2 n2 c2, ∃ q : Nat, e = .returned (.tuple #[optV (rval Opt.none r) A1 n1 c1 A2 n2 c2, .int .i64 (q : Int), .int .i64 (rerr r)]) ∧ OptR (fun b => w.heap.size ≤ b) w' 9223372036854775807 n A1 n1 c1 A2 n2 c2 (rval Opt.none r) ∧ AtR bs q r ∧ Below w.heap.size w w'

set_option maxHeartbeats 8000000 in
set_option maxRecDepth 100000 in
theorem rget4_short {n : Nat} {S : Nat → Prop} {A : Option Addr} {m c a : Nat} {bs : B} {w : World} {deep : Int} {er : Int} (hg : getN 2 (bs.drop a) = .error er) (hs : Sl S w A m c bs) (hm : m ≤ 140737488355328) (ha : a ≤ m) (hdn : deep + n = 20) (hd1 : 1 ≤ deep) (r : Res Opt) (hr : getO (n + 1) (bs.drop a) = r) :
    Calls Tryd.prog 17 #[.slice A m c, .int .i64 (a : Int), .int .i64 deep] w fun e w' => ∃ A1 n1 c1 A2 n2 c2, ∃ q : Nat, e = .returned (.tuple #[optV (rval Opt.none r) A1 n1 c1 A2 n2 c2, .int .i64 (q : Int), .int .i64 (rerr r)]) ∧ OptR (fun b => w.heap.size ≤ b) w' 9223372036854775807 (n + 1) A1 n1 c1 A2 n2 c2 (rval Opt.none r) ∧ AtR bs q r ∧ Below w.heap.size w w' := by
  have HLEN := Lib.hid hs.len
  have HS := Lib.hid hs.lt; clear hs
  have HR := Lib.hid hr; clear hr
  go_enter Tryd.func17, Tryd.ntmps17
  have HG := Lib.hid hg; clear hg
  have hne : er ≠ 0 := by have := getN_err HG.out; omega
  go_wp2_with fail
  refine (rget_any (HS.out.after (by repeat (first | exact Below.refl _ _ | assumption | refine Below.drew ?_ | refine below_drewN ?_ _ | refine Below.alloc ?_ (by first | (simp; done) | omega | (simp; omega)) _ | refine Below.setCell ?_ (by first | (simp; done) | omega | (simp; omega)) _))) ha (by decide) (by decide) _ HG.out).mono ?_
  rintro e w0 ⟨q0, rfl, hq0, rfl⟩
  clear hq0
  simp only [rval_error, rerr_error]
  obtain rfl := HR.out.symm.trans (getO_err HG.out)
  go_wp2_with fail
  refine bodyPost_ret (v := .tuple #[.agg #[.int .u16 0, .string ⟨#[]⟩, .string ⟨#[]⟩, .slice none 0 0, .slice none 0 0], .int .i64 0, .int .i64 er]) (by simp [results, Tryd.results17]; go_simp) rfl ?_
  simp only [rval_error, rerr_error]
  exact ⟨none, 0, 0, none, 0, 0, 0, rfl, OptR.none, AtR.err, (by repeat (first | exact Below.refl _ _ | assumption | refine Below.drew ?_ | refine below_drewN ?_ _ | refine Below.alloc ?_ (by first | (simp; done) | omega | (simp; omega)) _ | refine Below.setCell ?_ (by first | (simp; done) | omega | (simp; omega)) _))⟩
set_option maxHeartbeats 8000000 in
set_option maxRecDepth 100000 in
theorem rget4_deep {S : Nat → Prop} {A : Option Addr} {m c a : Nat} {bs : B} {w : World} {deep : Int} (hs : Sl S w A m c bs) (hm : m ≤ 140737488355328) (ha : a ≤ m) (hdn : deep = 21) (r : Res Opt) (hr : getO 0 (bs.drop a) = r) :
    Calls Tryd.prog 17 #[.slice A m c, .int .i64 (a : Int), .int .i64 deep] w fun e w' => ∃ A1 n1 c1 A2 n2 c2, ∃ q : Nat, e = .returned (.tuple #[optV (rval Opt.none r) A1 n1 c1 A2 n2 c2, .int .i64 (q : Int), .int .i64 (rerr r)]) ∧ OptR (fun b => w.heap.size ≤ b) w' 9223372036854775807 0 A1 n1 c1 A2 n2 c2 (rval Opt.none r) ∧ AtR bs q r ∧ Below w.heap.size w w' := by
  have HLEN := Lib.hid hs.len
  have HS := Lib.hid hs.lt; clear hs
  subst hdn
  obtain rfl : Except.error 13 = r := hr
  go_enter Tryd.func17, Tryd.ntmps17
  go_wp2_with fail
  refine bodyPost_ret (v := .tuple #[.agg #[.int .u16 0, .string ⟨#[]⟩, .string ⟨#[]⟩, .slice none 0 0, .slice none 0 0], .int .i64 0, .int .i64 13]) (by simp [results, Tryd.results17]; go_simp) rfl ?_
  simp only [rval_error, rerr_error]
  exact ⟨none, 0, 0, none, 0, 0, 0, rfl, OptR.none, AtR.err, (by repeat (first | exact Below.refl _ _ | assumption | refine Below.drew ?_ | refine below_drewN ?_ _ | refine Below.alloc ?_ (by first | (simp; done) | omega | (simp; omega)) _ | refine Below.setCell ?_ (by first | (simp; done) | omega | (simp; omega)) _))⟩
set_option maxHeartbeats 8000000 in
set_option maxRecDepth 100000 in
theorem rget4_bad {n : Nat} {S : Nat → Prop} {A : Option Addr} {m c a : Nat} {bs : B} {w : World} {deep : Int} {id : Nat} {rs : B} (hg : getN 2 (bs.drop a) = .ok (id, rs)) (hkn : kn id = -2) (hs : Sl S w A m c bs) (hm : m ≤ 140737488355328) (ha : a ≤ m) (hdn : deep + n = 20) (hd1 : 1 ≤ deep) (r : Res Opt) (hr : getO (n + 1) (bs.drop a) = r) :
    Calls Tryd.prog 17 #[.slice A m c, .int .i64 (a : Int), .int .i64 deep] w fun e w' => ∃ A1 n1 c1 A2 n2 c2, ∃ q : Nat, e = .returned (.tuple #[optV (rval Opt.none r) A1 n1 c1 A2 n2 c2, .int .i64 (q : Int), .int .i64 (rerr r)]) ∧ OptR (fun b => w.heap.size ≤ b) w' 9223372036854775807 (n + 1) A1 n1 c1 A2 n2 c2 (rval Opt.none r) ∧ AtR bs q r ∧ Below w.heap.size w w' := by
  have HLEN := Lib.hid hs.len
  have HS := Lib.hid hs.lt; clear hs
  have HR := Lib.hid hr; clear hr
  go_enter Tryd.func17, Tryd.ntmps17
  have HG := Lib.hid hg; clear hg
  have HKN := Lib.hid hkn; clear hkn
  have hid : id < 65536 := (getN_ok HG.out).2.2.2
  go_wp2_with fail
  refine (rget_any (HS.out.after (by repeat (first | exact Below.refl _ _ | assumption | refine Below.drew ?_ | refine below_drewN ?_ _ | refine Below.alloc ?_ (by first | (simp; done) | omega | (simp; omega)) _ | refine Below.setCell ?_ (by first | (simp; done) | omega | (simp; omega)) _))) ha (by decide) (by decide) _ HG.out).mono ?_
  rintro e w0 ⟨q0, rfl, hq0, rfl⟩
  have hq := hq0.le
  have HQD := Lib.hid hq0.drop
  clear hq0
  simp only [rval_ok, rerr_ok]
  have hqm : q0 ≤ m := by have := HLEN.out; omega
  clear hq
  go_wp2_with fail
  refine (many_any (id := id) hid _).mono ?_
  rintro e w1 ⟨rfl, hb1⟩
  have hz1 := hb1.size
  simp at hz1
  generalize hρ : xt (xt (xt (fun _ => 0) w.heap.size 2) (w.heap.size + 1) 1) (w.heap.size + 2) 5 = ρ
  have eR : ρ w.heap.size = 2 := by rw [← hρ, xt_lt (by omega), xt_lt (by omega), xt_ge (by omega)]
  have eO : ρ (w.heap.size + 1) = 1 := by rw [← hρ, xt_lt (by omega), xt_ge (by omega)]
  have hbw1 : Below w.heap.size w w1 := Below.trans (by repeat (first | exact Below.refl _ _ | assumption | refine Below.drew ?_ | refine below_drewN ?_ _ | refine Below.alloc ?_ (by first | (simp; done) | omega | (simp; omega)) _ | refine Below.setCell ?_ (by first | (simp; done) | omega | (simp; omega)) _)) (hb1.mono (by simp; omega))
  have HB := Lib.hid (⟨fun b hb _ => by rw [← hρ, xt_lt (by omega), xt_lt (by omega), xt_lt (by omega)], .of_below hbw1⟩ : Bs ρ (fun _ => False) w w1)
  have HO : Hid (Bx (Rl ρ 1) w1 (w.heap.size + 1) [.int .u16 (id : Nat), .string (str []), .string (str []), .slice none 0 0, .slice none 0 0]) := (Bx.alloc (w.alloc _) #[.int .u16 (id : Nat), .string (str []), .string (str []), .slice none 0 0, .slice none 0 0] _ (by simpa using eO) (by simp)).after hb1
  have HRB : Hid (Bx (Rl ρ 2) w1 w.heap.size [.int .u16 0, .string (str []), .string (str []), .slice none 0 0, .slice none 0 0]) := ((Bx.alloc w #[.int .u16 0, .string (str []), .string (str []), .slice none 0 0, .slice none 0 0] _ eR).after (Below.alloc (Below.refl _ _) (Nat.le_refl _) _)).after hb1
  have HSw : Hid (Sl (fun b => S b ∧ b < w.heap.size) w1 A m c bs) := HS.out.after hbw1
  clear hρ eR eO hb1 hbw1
  rw [HKN.out]
  have hne : (11 : Int) ≠ 0 := by decide

  obtain rfl := HR.out.symm.trans (getO_bad HG.out HKN.out)
  have r0 := HRB.out.c 0 _ rfl
  have r1 := HRB.out.c 1 _ rfl
  have r2 := HRB.out.c 2 _ rfl
  have r3 := HRB.out.c 3 _ rfl
  have r4 := HRB.out.c 4 _ rfl
  have f0 := HRB.out.fr 0
  have f1 := HRB.out.fr 1
  have f2 := HRB.out.fr 2
  have f3 := HRB.out.fr 3
  have f4 := HRB.out.fr 4
  have hrl := HRB.out.lt
  have HB5 := Lib.hid (HB.out.stay (Fr.of_grown (grow5 w1 w.heap.size (.int .u16 0) (.string ⟨#[]⟩) (.string ⟨#[]⟩) (.slice none 0 0) (.slice none 0 0)) (fun b e => by injection e with e; subst e; exact HRB.out.role) : Fr (Rl _ 2) _ _)).below
  go_wp2_with fail
  refine bodyPost_ret (v := .tuple #[.agg #[.int .u16 0, .string ⟨#[]⟩, .string ⟨#[]⟩, .slice none 0 0, .slice none 0 0], .int .i64 0, .int .i64 11]) (by simp [results, Tryd.results17]; go_simp) rfl ?_
  simp only [rval_error, rerr_error]
  exact ⟨none, 0, 0, none, 0, 0, 0, rfl, OptR.none, AtR.err, HB5.out⟩
end Go.Proofs.Sb
