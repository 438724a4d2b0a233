/- Walks over signalboxref04.Get. Conditions: lengths up to 2^47. (written by gen_ref4get.py) -/
import Derived.Test.YtenhgcgdhaegaaaDoorOpth
import Derived.Test.YtenhgcgdhaegaaaDoorRoleo
import Derived.Test.YtenhgcgdhaegaaaDoorOptk
import Derived.Test.YtenhgcgdhaegaaaDoorRefb
import Derived.Test.YtenhgcgdhaegaaaDoorMaps
set_option linter.unusedVariables false
set_option linter.unusedSimpArgs false
namespace Sb
theorem fin_err {n id m k : Nat} {hd : B × B} {c0 rest : B} {l : List (B × Opt)} {e : Int} (h : getsM (kidR (getO n) id) k c0 = .ok (l, rest)) (hk : k < m) (he : kidR (getO n) id rest = .error e) : finO n id m hd (.ok c0) = .error e := by
  simp only [finO, getsM_stop hk h he]
theorem fin_ok {n id m : Nat} {hd : B × B} {c0 rest : B} {l : List (B × Opt)} (h : getsM (kidR (getO n) id) m c0 = .ok (l, rest)) : finO n id m hd (.ok c0) = .ok (mkO id hd l, rest) := by
  simp only [finO, h]
def kidG (s : B) : Res Opt → Res (B × Opt)
  | .error e => .error e
  | .ok (x, r2) => .ok ((s, x), r2)
theorem kid4_no {n id : Nat} {rs : B} (h48 : ¬ id = 48) {r : Res Opt} (h : getO n rs = r) : kidR (getO n) id rs = kidG [] r := by
  subst h
  rw [kidR_no h48]
  cases getO n rs <;> rfl
theorem kid4_48 {n : Nat} {rs s rs2 : B} (hs : getText rs = .ok (s, rs2)) {r : Res Opt} (h : getO n rs2 = r) : kidR (getO n) 48 rs = kidG s r := by
  subst h
  unfold kidR bothR nameR
  rw [if_pos rfl, hs]
  simp only
  cases getO n rs2 <;> rfl
theorem kid4_48e {n : Nat} {rs : B} {e : Int} (hs : getText rs = .error e) : kidR (getO n) 48 rs = .error e := by
  unfold kidR bothR nameR
  rw [if_pos rfl, hs]
theorem getText_e {b : B} {e : Int} (h : getText b = .error e) : e ≠ 0 := gt_ne h
end Sb
namespace Go.Proofs.Sb
open Go.RowKit _root_.Sb

/-- what signalboxref04.Get does, so many levels deep -/
def Get4 (n : Nat) : Prop := ∀ {S : Nat → Prop} {A : Option Addr} {m c a : Nat} {bs : B} {w : World} {deep : Int}, Sl S w A m c bs → m ≤ 140737488355328 → a ≤ m → deep + n = 21 → 1 ≤ deep → ∀ r : Res Opt, getO n (bs.drop a) = r → Calls Tryd.prog 58 #[.slice A m c, .int .i64 (a : Int), .int .i64 deep] w fun e w' => ∃ A1 n1 c1 A2 n2 c2, ∃ q : Nat, e = .returned (.tuple #[optV (rval Opt.none r) A1 n1 c1 A2 n2 c2, .int .i64 (q : Int), .int .i64 (rerr r)]) ∧ OptR (fun b => w.heap.size ≤ b) w' 9223372036854775807 n A1 n1 c1 A2 n2 c2 (rval Opt.none r) ∧ AtR bs q r ∧ Below w.heap.size w w'

set_option maxHeartbeats 8000000 in
set_option maxRecDepth 100000 in
theorem rget4_short {n : Nat} {S : Nat → Prop} {A : Option Addr} {m c a : Nat} {bs : B} {w : World} {deep : Int} {er : Int} (hg : getN 2 (bs.drop a) = .error er) (hs : Sl S w A m c bs) (hm : m ≤ 140737488355328) (ha : a ≤ m) (hdn : deep + n = 20) (hd1 : 1 ≤ deep) (r : Res Opt) (hr : getO (n + 1) (bs.drop a) = r) :
    Calls Tryd.prog 58 #[.slice A m c, .int .i64 (a : Int), .int .i64 deep] w fun e w' => ∃ A1 n1 c1 A2 n2 c2, ∃ q : Nat, e = .returned (.tuple #[optV (rval Opt.none r) A1 n1 c1 A2 n2 c2, .int .i64 (q : Int), .int .i64 (rerr r)]) ∧ OptR (fun b => w.heap.size ≤ b) w' 9223372036854775807 (n + 1) A1 n1 c1 A2 n2 c2 (rval Opt.none r) ∧ AtR bs q r ∧ Below w.heap.size w w' := by
  have HLEN := Lib.hid hs.len
  have HS := Lib.hid hs.lt; clear hs
  have HR := Lib.hid hr; clear hr
  go_enter Tryd.func58, Tryd.ntmps58
  have HG := Lib.hid hg; clear hg
  have hne : er ≠ 0 := by have := getN_err HG.out; omega
  go_wp2_with fail
  refine (rget_any (HS.out.after (by repeat (first | exact Below.refl _ _ | assumption | refine Below.drew ?_ | refine below_drewN ?_ _ | refine Below.alloc ?_ (by first | (simp; done) | omega | (simp; omega)) _ | refine Below.setCell ?_ (by first | (simp; done) | omega | (simp; omega)) _))) ha (by decide) (by decide) _ HG.out).mono ?_
  rintro e w0 ⟨q0, rfl, hq0, rfl⟩
  clear hq0
  simp only [rval_error, rerr_error]
  obtain rfl := HR.out.symm.trans (getO_err HG.out)
  go_wp2_with fail
  refine bodyPost_ret (v := .tuple #[.agg #[.int .u16 0, .string ⟨#[]⟩, .string ⟨#[]⟩, .slice none 0 0, .slice none 0 0], .int .i64 0, .int .i64 er]) (by simp [results, Tryd.results58]; go_simp) rfl ?_
  simp only [rval_error, rerr_error]
  exact ⟨none, 0, 0, none, 0, 0, 0, rfl, OptR.none, AtR.err, (by repeat (first | exact Below.refl _ _ | assumption | refine Below.drew ?_ | refine below_drewN ?_ _ | refine Below.alloc ?_ (by first | (simp; done) | omega | (simp; omega)) _ | refine Below.setCell ?_ (by first | (simp; done) | omega | (simp; omega)) _))⟩
set_option maxHeartbeats 8000000 in
set_option maxRecDepth 100000 in
theorem rget4_deep {S : Nat → Prop} {A : Option Addr} {m c a : Nat} {bs : B} {w : World} {deep : Int} (hs : Sl S w A m c bs) (hm : m ≤ 140737488355328) (ha : a ≤ m) (hdn : deep = 21) (r : Res Opt) (hr : getO 0 (bs.drop a) = r) :
    Calls Tryd.prog 58 #[.slice A m c, .int .i64 (a : Int), .int .i64 deep] w fun e w' => ∃ A1 n1 c1 A2 n2 c2, ∃ q : Nat, e = .returned (.tuple #[optV (rval Opt.none r) A1 n1 c1 A2 n2 c2, .int .i64 (q : Int), .int .i64 (rerr r)]) ∧ OptR (fun b => w.heap.size ≤ b) w' 9223372036854775807 0 A1 n1 c1 A2 n2 c2 (rval Opt.none r) ∧ AtR bs q r ∧ Below w.heap.size w w' := by
  have HLEN := Lib.hid hs.len
  have HS := Lib.hid hs.lt; clear hs
  subst hdn
  obtain rfl : Except.error 13 = r := hr
  go_enter Tryd.func58, Tryd.ntmps58
  go_wp2_with fail
  refine bodyPost_ret (v := .tuple #[.agg #[.int .u16 0, .string ⟨#[]⟩, .string ⟨#[]⟩, .slice none 0 0, .slice none 0 0], .int .i64 0, .int .i64 13]) (by simp [results, Tryd.results58]; go_simp) rfl ?_
  simp only [rval_error, rerr_error]
  exact ⟨none, 0, 0, none, 0, 0, 0, rfl, OptR.none, AtR.err, (by repeat (first | exact Below.refl _ _ | assumption | refine Below.drew ?_ | refine below_drewN ?_ _ | refine Below.alloc ?_ (by first | (simp; done) | omega | (simp; omega)) _ | refine Below.setCell ?_ (by first | (simp; done) | omega | (simp; omega)) _))⟩
set_option maxHeartbeats 8000000 in
set_option maxRecDepth 100000 in
theorem rget4_bad {n : Nat} {S : Nat → Prop} {A : Option Addr} {m c a : Nat} {bs : B} {w : World} {deep : Int} {id : Nat} {rs : B} (hg : getN 2 (bs.drop a) = .ok (id, rs)) (hkn : kn id = -2) (hs : Sl S w A m c bs) (hm : m ≤ 140737488355328) (ha : a ≤ m) (hdn : deep + n = 20) (hd1 : 1 ≤ deep) (r : Res Opt) (hr : getO (n + 1) (bs.drop a) = r) :
    Calls Tryd.prog 58 #[.slice A m c, .int .i64 (a : Int), .int .i64 deep] w fun e w' => ∃ A1 n1 c1 A2 n2 c2, ∃ q : Nat, e = .returned (.tuple #[optV (rval Opt.none r) A1 n1 c1 A2 n2 c2, .int .i64 (q : Int), .int .i64 (rerr r)]) ∧ OptR (fun b => w.heap.size ≤ b) w' 9223372036854775807 (n + 1) A1 n1 c1 A2 n2 c2 (rval Opt.none r) ∧ AtR bs q r ∧ Below w.heap.size w w' := by
  have HLEN := Lib.hid hs.len
  have HS := Lib.hid hs.lt; clear hs
  have HR := Lib.hid hr; clear hr
  go_enter Tryd.func58, Tryd.ntmps58
  have HG := Lib.hid hg; clear hg
  have HKN := Lib.hid hkn; clear hkn
  have hid : id < 65536 := (getN_ok HG.out).2.2.2
  go_wp2_with fail
  refine (rget_any (HS.out.after (by repeat (first | exact Below.refl _ _ | assumption | refine Below.drew ?_ | refine below_drewN ?_ _ | refine Below.alloc ?_ (by first | (simp; done) | omega | (simp; omega)) _ | refine Below.setCell ?_ (by first | (simp; done) | omega | (simp; omega)) _))) ha (by decide) (by decide) _ HG.out).mono ?_
  rintro e w0 ⟨q0, rfl, hq0, rfl⟩
  have hq := hq0.le
  have HQD := Lib.hid hq0.drop
  clear hq0
  simp only [rval_ok, rerr_ok]
  have hqm : q0 ≤ m := by have := HLEN.out; omega
  clear hq
  go_wp2_with fail
  refine (many_any (id := id) hid _).mono ?_
  rintro e w1 ⟨rfl, hb1⟩
  have hz1 := hb1.size
  simp at hz1
  generalize hρ : xt (xt (xt (fun _ => 0) w.heap.size 2) (w.heap.size + 1) 1) (w.heap.size + 2) 5 = ρ
  have eR : ρ w.heap.size = 2 := by rw [← hρ, xt_lt (by omega), xt_lt (by omega), xt_ge (by omega)]
  have eO : ρ (w.heap.size + 1) = 1 := by rw [← hρ, xt_lt (by omega), xt_ge (by omega)]
  have hbw1 : Below w.heap.size w w1 := Below.trans (by repeat (first | exact Below.refl _ _ | assumption | refine Below.drew ?_ | refine below_drewN ?_ _ | refine Below.alloc ?_ (by first | (simp; done) | omega | (simp; omega)) _ | refine Below.setCell ?_ (by first | (simp; done) | omega | (simp; omega)) _)) (hb1.mono (by simp; omega))
  have HB := Lib.hid (⟨fun b hb _ => by rw [← hρ, xt_lt (by omega), xt_lt (by omega), xt_lt (by omega)], .of_below hbw1⟩ : Bs ρ (fun _ => False) w w1)
  have HO : Hid (Bx (Rl ρ 1) w1 (w.heap.size + 1) [.int .u16 (id : Nat), .string (str []), .string (str []), .slice none 0 0, .slice none 0 0]) := (Bx.alloc (w.alloc _) #[.int .u16 (id : Nat), .string (str []), .string (str []), .slice none 0 0, .slice none 0 0] _ (by simpa using eO) (by simp)).after hb1
  have HRB : Hid (Bx (Rl ρ 2) w1 w.heap.size [.int .u16 0, .string (str []), .string (str []), .slice none 0 0, .slice none 0 0]) := ((Bx.alloc w #[.int .u16 0, .string (str []), .string (str []), .slice none 0 0, .slice none 0 0] _ eR).after (Below.alloc (Below.refl _ _) (Nat.le_refl _) _)).after hb1
  have HSw : Hid (Sl (fun b => S b ∧ b < w.heap.size) w1 A m c bs) := HS.out.after hbw1
  clear hρ eR eO hb1 hbw1
  rw [HKN.out]
  have hne : (11 : Int) ≠ 0 := by decide

  obtain rfl := HR.out.symm.trans (getO_bad HG.out HKN.out)
  have r0 := HRB.out.c 0 _ rfl
  have r1 := HRB.out.c 1 _ rfl
  have r2 := HRB.out.c 2 _ rfl
  have r3 := HRB.out.c 3 _ rfl
  have r4 := HRB.out.c 4 _ rfl
  have f0 := HRB.out.fr 0
  have f1 := HRB.out.fr 1
  have f2 := HRB.out.fr 2
  have f3 := HRB.out.fr 3
  have f4 := HRB.out.fr 4
  have hrl := HRB.out.lt
  have HB5 := Lib.hid (HB.out.stay (Fr.of_grown (grow5 w1 w.heap.size (.int .u16 0) (.string ⟨#[]⟩) (.string ⟨#[]⟩) (.slice none 0 0) (.slice none 0 0)) (fun b e => by injection e with e; subst e; exact HRB.out.role) : Fr (Rl _ 2) _ _)).below
  go_wp2_with fail
  refine bodyPost_ret (v := .tuple #[.agg #[.int .u16 0, .string ⟨#[]⟩, .string ⟨#[]⟩, .slice none 0 0, .slice none 0 0], .int .i64 0, .int .i64 11]) (by simp [results, Tryd.results58]; go_simp) rfl ?_
  simp only [rval_error, rerr_error]
  exact ⟨none, 0, 0, none, 0, 0, 0, rfl, OptR.none, AtR.err, HB5.out⟩
end Go.Proofs.Sb

/- Walk over signalboxref04.Get: a plain number. Conditions: lengths up to 2^47. (written by gen_ref4get.py) -/
namespace Go.Proofs.Sb
open Go.RowKit _root_.Sb

set_option maxHeartbeats 8000000 in
set_option maxRecDepth 100000 in
theorem rget4_else {n : Nat} {S : Nat → Prop} {A : Option Addr} {m c a : Nat} {bs : B} {w : World} {deep : Int} (ih : Get4 n) {id : Nat} {rs : B} (hg : getN 2 (bs.drop a) = .ok (id, rs)) (hk0 : 0 ≤ kn id) (hi0 : ¬ id = 0) (hs : Sl S w A m c bs) (hm : m ≤ 140737488355328) (ha : a ≤ m) (hdn : deep + n = 20) (hd1 : 1 ≤ deep) (r : Res Opt) (hr : getO (n + 1) (bs.drop a) = r) :
    Calls Tryd.prog 58 #[.slice A m c, .int .i64 (a : Int), .int .i64 deep] w fun e w' => ∃ A1 n1 c1 A2 n2 c2, ∃ q : Nat, e = .returned (.tuple #[optV (rval Opt.none r) A1 n1 c1 A2 n2 c2, .int .i64 (q : Int), .int .i64 (rerr r)]) ∧ OptR (fun b => w.heap.size ≤ b) w' 9223372036854775807 (n + 1) A1 n1 c1 A2 n2 c2 (rval Opt.none r) ∧ AtR bs q r ∧ Below w.heap.size w w' := by
  have HLEN := Lib.hid hs.len
  have HS := Lib.hid hs.lt; clear hs
  have HR := Lib.hid hr; clear hr
  go_enter Tryd.func58, Tryd.ntmps58
  have HG := Lib.hid hg; clear hg
  have hi48 : ¬ id = 48 := kn_not48 hk0

  have hid : id < 65536 := (getN_ok HG.out).2.2.2
  go_wp2_with fail
  refine (rget_any (HS.out.after (by repeat (first | exact Below.refl _ _ | assumption | refine Below.drew ?_ | refine below_drewN ?_ _ | refine Below.alloc ?_ (by first | (simp; done) | omega | (simp; omega)) _ | refine Below.setCell ?_ (by first | (simp; done) | omega | (simp; omega)) _))) ha (by decide) (by decide) _ HG.out).mono ?_
  rintro e w0 ⟨q0, rfl, hq0, rfl⟩
  have hq := hq0.le
  have HQD := Lib.hid hq0.drop
  clear hq0
  simp only [rval_ok, rerr_ok]
  have hqm : q0 ≤ m := by have := HLEN.out; omega
  clear hq
  go_wp2_with fail
  refine (many_any (id := id) hid _).mono ?_
  rintro e w1 ⟨rfl, hb1⟩
  have hz1 := hb1.size
  simp at hz1
  generalize hρ : xt (xt (xt (fun _ => 0) w.heap.size 2) (w.heap.size + 1) 1) (w.heap.size + 2) 5 = ρ
  have eR : ρ w.heap.size = 2 := by rw [← hρ, xt_lt (by omega), xt_lt (by omega), xt_ge (by omega)]
  have eO : ρ (w.heap.size + 1) = 1 := by rw [← hρ, xt_lt (by omega), xt_ge (by omega)]
  have hbw1 : Below w.heap.size w w1 := Below.trans (by repeat (first | exact Below.refl _ _ | assumption | refine Below.drew ?_ | refine below_drewN ?_ _ | refine Below.alloc ?_ (by first | (simp; done) | omega | (simp; omega)) _ | refine Below.setCell ?_ (by first | (simp; done) | omega | (simp; omega)) _)) (hb1.mono (by simp; omega))
  have HB := Lib.hid (⟨fun b hb _ => by rw [← hρ, xt_lt (by omega), xt_lt (by omega), xt_lt (by omega)], .of_below hbw1⟩ : Bs ρ (fun _ => False) w w1)
  have HO : Hid (Bx (Rl ρ 1) w1 (w.heap.size + 1) [.int .u16 (id : Nat), .string (str []), .string (str []), .slice none 0 0, .slice none 0 0]) := (Bx.alloc (w.alloc _) #[.int .u16 (id : Nat), .string (str []), .string (str []), .slice none 0 0, .slice none 0 0] _ (by simpa using eO) (by simp)).after hb1
  have HRB : Hid (Bx (Rl ρ 2) w1 w.heap.size [.int .u16 0, .string (str []), .string (str []), .slice none 0 0, .slice none 0 0]) := ((Bx.alloc w #[.int .u16 0, .string (str []), .string (str []), .slice none 0 0, .slice none 0 0] _ eR).after (Below.alloc (Below.refl _ _) (Nat.le_refl _) _)).after hb1
  have HSw : Hid (Sl (fun b => S b ∧ b < w.heap.size) w1 A m c bs) := HS.out.after hbw1
  clear hρ eR eO hb1 hbw1
  have SPL : ([] : B).length ≤ 9223372036854775807 := Nat.zero_le _
  have NML : ([] : B).length ≤ 9223372036854775807 := Nat.zero_le _

  have hkr := kn_range id
  have HKN := Lib.hid (show (kn id) = ((kn id).toNat : Nat) by omega)
  have hm2 : (kn id).toNat ≤ 2 := by omega
  have HGT := Lib.hid (getO_else (n := n) HG.out hk0 hi0)
  rw [HKN.out]
  generalize (kn id).toNat = M at *
  clear HKN hk0 hkr
  have HMB := Lib.hid (show M ≤ 65536 by omega)
  have HQL := HQD
  have o0 := HO.out.c 0 _ rfl
  have o1 := HO.out.c 1 _ rfl
  have o2 := HO.out.c 2 _ rfl
  have o3 := HO.out.c 3 _ rfl
  have o4 := HO.out.c 4 _ rfl
  have g0 := HO.out.fr 0
  have g1 := HO.out.fr 1
  have g2 := HO.out.fr 2
  have g3 := HO.out.fr 3
  have g4 := HO.out.fr 4
  go_wp2_with fail

  have HGETO := Lib.hid (HGT.out : getO (n + 1) (bs.drop a) = finO n id (M) ([], []) (.ok rs))
  go_loopw [11, 15] (fun u i wr => ∃ ρ k q A1 m1 d1 A2 m2 d2 l rest, k ≤ M ∧ u = .int .i64 (q : Nat) ∧ i = .int .i64 (k : Nat) ∧ Hid (l.length = k) ∧ q ≤ m ∧ Hid (bs.drop q = rest) ∧ Hid (Bx (Rl ρ 1) wr (w.heap.size + 1) [.int .u16 (id : Nat), .string (str []), .string (str []), .slice A1 m1 d1, .slice A2 m2 d2]) ∧ Hid (Bx (Rl ρ 2) wr w.heap.size [.int .u16 0, .string (str []), .string (str []), .slice none 0 0, .slice none 0 0]) ∧ Hid (OwnS 9 1 strP (Rl ρ 3) wr A1 m1 d1 (nmsO id l)) ∧ Hid (OwnS 62 5 (optD (Rl ρ 5) wr 9223372036854775807 (n + 1)) (Rl ρ 4) wr A2 m2 d2 (l.map (·.2))) ∧ Hid (Bs ρ (fun _ => False) w wr) ∧ Hid (getsM (kidR (getO n) id) k rs = .ok (l, rest))) (fun _ i _ => M - (intOf i).toNat)
  case atStart => exact ⟨_, 0, q0, none, 0, 0, none, 0, 0, [], _, by omega, rfl, rfl, rfl, by omega, rfl, HO, HRB, by (unfold nmsO; split <;> exact OwnS.nil), OwnS.nil, HB, by rw [HQL.out]; rfl⟩
  case round =>
    obtain ⟨ρ, k, q, A1, m1, d1, A2, m2, d2, l, rest, hk, rfl, rfl, HLL, hqm2, HQ, HO, HRB, HN, HK, HB, HGS⟩ := hrel
    have hzr := HB.out.size
    have hol := HO.out.lt
    have HSr : Hid (Sl (fun b => S b ∧ b < w.heap.size) wr A m c bs) := HS.out.after HB.out.below
    have o0 := HO.out.c 0 _ rfl
    have o1 := HO.out.c 1 _ rfl
    have o2 := HO.out.c 2 _ rfl
    have o3 := HO.out.c 3 _ rfl
    have o4 := HO.out.c 4 _ rfl
    have g0 := HO.out.fr 0
    have g1 := HO.out.fr 1
    have g2 := HO.out.fr 2
    have g3 := HO.out.fr 3
    have g4 := HO.out.fr 4
    by_cases hlt : k < M
    · have HSW := HSr
      go_wp2_with fail
      refine (ih (deep := deep + 1) (a := q) (HSW.out.after (by repeat (first | exact Below.refl _ _ | assumption | refine Below.drew ?_ | refine below_drewN ?_ _ | refine Below.alloc ?_ (by first | (simp; done) | omega | (simp; omega)) _ | refine Below.setCell ?_ (by first | (simp; done) | omega | (simp; omega)) _))) hm (by omega) (by omega) (by omega) _ rfl).mono ?_
      rintro e2 w2 ⟨B1, p1, u1, B2, p2, u2, q2, rfl, hx2, hq2, hb2⟩
      have hbK : Below wr.heap.size wr w2 := Below.trans (by repeat (first | exact Below.refl _ _ | assumption | refine Below.drew ?_ | refine below_drewN ?_ _ | refine Below.alloc ?_ (by first | (simp; done) | omega | (simp; omega)) _ | refine Below.setCell ?_ (by first | (simp; done) | omega | (simp; omega)) _)) (hb2.mono (by simp))
      have hzk := hb2.size
      simp at hzk
      have HKB : Hid (Bx (Rl (xt (xt ρ wr.heap.size 6) (wr.heap.size + 1) 5) 6) w2 wr.heap.size [.int .u16 0, .string (str []), .string (str []), .slice none 0 0, .slice none 0 0]) := (Bx.alloc wr #[.int .u16 0, .string (str []), .string (str []), .slice none 0 0, .slice none 0 0] _ two_at).after hb2
      have HO2 := Lib.hid (HO.out.two hbK 6 5); clear HO
      have HR2 := Lib.hid (HRB.out.two hbK 6 5); clear HRB
      have HN2 := Lib.hid (HN.out.two hbK 6 5); clear HN
      have HK2 := Lib.hid ((HK.out.two hbK 6 5).deep2 goesOpt hbK 6 5); clear HK
      have HB2 := Lib.hid (HB.out.two hbK 6 5); clear HB
      have HX2 : Hid (OptR (Rl (xt (xt ρ wr.heap.size 6) (wr.heap.size + 1) 5) 5) w2 9223372036854775807 n B1 p1 u1 B2 p2 u2 _) := hx2.mono fun b hb _ => two_ge (by simpa using hb)
      have HQ2 := Lib.hid hq2
      clear hx2 hq2 hbK hb2
      obtain ⟨ρk, hρk⟩ : ∃ ρk, ρk = xt (xt ρ wr.heap.size 6) (wr.heap.size + 1) 5 := ⟨_, rfl⟩
      rw [← hρk] at HKB HO2 HR2 HN2 HK2 HB2 HX2
      clear hρk
      have k0 := HKB.out.c 0 _ rfl
      have k1 := HKB.out.c 1 _ rfl
      have k2 := HKB.out.c 2 _ rfl
      have k3 := HKB.out.c 3 _ rfl
      have k4 := HKB.out.c 4 _ rfl
      have h0 := HKB.out.fr 0
      have h1 := HKB.out.fr 1
      have h2 := HKB.out.fr 2
      have h3 := HKB.out.fr 3
      have h4 := HKB.out.fr 4
      clear o0 o1 o2 o3 o4 g0 g1 g2 g3 g4
      have hkl := HKB.out.lt
      have hol2 := HO2.out.lt
      obtain ⟨rx, hrx⟩ : ∃ rx, getO n (bs.drop q) = rx := ⟨_, rfl⟩
      have HRX := Lib.hid hrx
      rw [hrx] at HX2 HQ2 ⊢
      clear hrx
      rw [HQ.out] at HRX
      cases rx with
      | error er =>
        have hne : er ≠ 0 := getO_ne HRX.out
        simp only [rval_error, rerr_error]
        have hfk : Fr (Rl ρk 6) w2 _ := Fr.of_grown (grow5 w2 wr.heap.size (.int .u16 (Opt.none.id : Int)) (.string (str Opt.none.space)) (.string (str Opt.none.name)) (.slice B1 p1 u1) (.slice B2 p2 u2)) (fun b e => by injection e with e; subst e; exact HKB.out.role)
        have HR3 := Lib.hid (HR2.out.stay hfk)
        have HB3 := Lib.hid (HB2.out.stay hfk)
        clear hfk
        obtain rfl := HR.out.symm.trans (HGETO.out.trans (fin_err HGS.out hlt (kid4_no hi48 HRX.out)))
        have r0 := HR2.out.c 0 _ rfl
        have r1 := HR2.out.c 1 _ rfl
        have r2 := HR2.out.c 2 _ rfl
        have r3 := HR2.out.c 3 _ rfl
        have r4 := HR2.out.c 4 _ rfl
        have f0 := HR2.out.fr 0
        have f1 := HR2.out.fr 1
        have f2 := HR2.out.fr 2
        have f3 := HR2.out.fr 3
        have f4 := HR2.out.fr 4
        have hrl := HR3.out.lt
        have HB5 := Lib.hid (HB3.out.stay (Fr.of_grown (grow5 _ w.heap.size (.int .u16 0) (.string ⟨#[]⟩) (.string ⟨#[]⟩) (.slice none 0 0) (.slice none 0 0)) (fun b e => by injection e with e; subst e; exact HR3.out.role) : Fr (Rl _ 2) _ _)).below
        go_wp2_with fail
        refine bodyPost_ret (v := .tuple #[.agg #[.int .u16 0, .string ⟨#[]⟩, .string ⟨#[]⟩, .slice none 0 0, .slice none 0 0], .int .i64 0, .int .i64 er]) (by simp [results, Tryd.results58]; go_simp) rfl ?_
        simp only [rval_error, rerr_error]
        exact ⟨none, 0, 0, none, 0, 0, 0, rfl, OptR.none, AtR.err, HB5.out⟩
      | ok p =>
        obtain ⟨ox, rest2⟩ := p
        simp only [rval_ok, rerr_ok] at HX2 ⊢
        have o0 := HO2.out.c 0 _ rfl
        have o1 := HO2.out.c 1 _ rfl
        have o2 := HO2.out.c 2 _ rfl
        have o3 := HO2.out.c 3 _ rfl
        have o4 := HO2.out.c 4 _ rfl
        have g0 := HO2.out.fr 0
        have g1 := HO2.out.fr 1
        have g2 := HO2.out.fr 2
        have g3 := HO2.out.fr 3
        have g4 := HO2.out.fr 4
        have hq2m : q2 ≤ m := by have := HQ2.out.le; have := HLEN.out; omega
        have HQD2 := Lib.hid HQ2.out.drop; clear HQ2
        have hfk : Fr (Rl ρk 6) w2 _ := Fr.of_grown (grow5 w2 wr.heap.size (.int .u16 (ox.id : Int)) (.string (str ox.space)) (.string (str ox.name)) (.slice B1 p1 u1) (.slice B2 p2 u2)) (fun b e => by injection e with e; subst e; exact HKB.out.role)
        have HO3 := Lib.hid (HO2.out.stay hfk); clear HO2
        have HR3 := Lib.hid (HR2.out.stay hfk); clear HR2
        have HN3 := Lib.hid (HN2.out.stay hfk); clear HN2
        have HK3 := Lib.hid (HK2.out.stay hfk); clear HK2
        have HB3 := Lib.hid (HB2.out.stay hfk); clear HB2
        have HFK := Lib.hid hfk; clear hfk
        have hml := HK3.out.len (by decide)
        have hmk : m2 ≤ 65536 := by have := HLL.out; rw [List.length_map] at hml; have := HMB.out; omega
        clear hml
        go_wp2_with (first | (at_builtin; refine wpList_appX rfl tyOpt _ _ rfl (ρ := ρk) (r := 4) _ _ _ (l.map (·.2)) rfl (HK3.out.after ((Below.refl _ _).alloc (Nat.le_refl _) _)) _ _ _ _ [ox] rfl (arr_lit (P := optD (Rl ρk 5) w2 9223372036854775807 (n + 1)) _ #[.int .u16 (ox.id : Int), .string (str ox.space), .string (str ox.name), .slice B1 p1 u1, .slice B2 p2 u2] ox rfl HX2.out.to (by simp)) (fun _ _ h => h.one) (fun _ _ _ h => h) (by omega) (by unfold maxLen; omega) ?_; intro A4 m4 d4 w5 ρ5 hx5 hown5 hf45; have HX5 := Lib.hid hx5; clear hx5; have HO5 := Lib.hid ((HO3.out.after ((Below.refl _ _).alloc (Nat.le_refl _) _)).stepx hf45 HX5.out); have o45 := HO5.out.c 4 _ rfl; have f45 := HO5.out.fr 4))
        have hf56 : Fr (Rl ρ5 1) w5 (w5.setCell ⟨w.heap.size + 1, 4, none⟩ (.slice A4 m4 d4)) := HO5.out.frPut 4 _
        have HO6 : Hid (Bx (Rl ρ5 1) (w5.setCell ⟨w.heap.size + 1, 4, none⟩ (.slice A4 m4 d4)) (w.heap.size + 1) [.int .u16 (id : Nat), .string (str []), .string (str []), .slice A1 m1 d1, .slice A4 m4 d4]) := HO5.out.put 4 (.slice A4 m4 d4) (by show 4 < 5; decide)
        have HR6 := Lib.hid (((HR3.out.after ((Below.refl _ _).alloc (Nat.le_refl _) _)).stepx hf45 HX5.out).stay hf56)
        have HN6 := Lib.hid (((HN3.out.after ((Below.refl _ _).alloc (Nat.le_refl _) _)).stepx hf45 HX5.out).stay hf56)
        have HB6 := Lib.hid (((HB3.out.after ((Below.refl _ _).alloc (Nat.le_refl _) _)).stepx hf45 HX5.out).stay hf56)
        have HK6 := Lib.hid (((((hown5.deepS goesOpt HFK.out).deepA goesOpt ((Below.refl _ _).alloc (Nat.le_refl _) _)).deepx goesOpt hf45 HX5.out).stay hf56).deepS goesOpt hf56)
        have HGS2 : Hid (getsM (kidR (getO n) id) (k + 1) _ = .ok (l ++ [([], ox)], rest2)) := getsM_snoc HGS.out (kid4_no hi48 HRX.out)
        first
          | refine ⟨⟨_, _, _, _, _, ⟨ρ5, k + 1, by omega, q2, rfl, by go_num, A1, m1, d1, A4, m4, d4, l ++ [([], ox)], (by have := HLL.out; show (l ++ [_]).length = k + 1; rw [List.length_append, this]; rfl), hq2m, rest2, HQD2, HO6, HR6, HN6.out.as (nms_snoc_no hi48 l ([], ox)).symm, HK6.out.as (by simp), HB6, HGS2⟩, rfl, rfl, rfl, rfl, rfl⟩, by simp [intOf]; omega⟩
          | refine ⟨⟨ρ5, k + 1, q2, A1, m1, d1, A4, m4, d4, l ++ [([], ox)], rest2, by omega, rfl, by go_num, (by have := HLL.out; show (l ++ [_]).length = k + 1; rw [List.length_append, this]; rfl), hq2m, HQD2, HO6, HR6, HN6.out.as (nms_snoc_no hi48 l ([], ox)).symm, HK6.out.as (by simp), HB6, HGS2⟩, by simp [intOf]; omega⟩
    · obtain rfl : k = M := by omega
      obtain rfl := HR.out.symm.trans (HGETO.out.trans (fin_ok HGS.out))
      have r0 := HRB.out.c 0 _ rfl
      have r1 := HRB.out.c 1 _ rfl
      have r2 := HRB.out.c 2 _ rfl
      have r3 := HRB.out.c 3 _ rfl
      have r4 := HRB.out.c 4 _ rfl
      have f0 := HRB.out.fr 0
      have f1 := HRB.out.fr 1
      have f2 := HRB.out.fr 2
      have f3 := HRB.out.fr 3
      have f4 := HRB.out.fr 4
      have hrl := HRB.out.lt
      have hf5 : Fr (Rl ρ 2) wr _ := Fr.of_grown (grow5 wr w.heap.size (.int .u16 (id : Nat)) (.string (str [])) (.string (str [])) (.slice A1 m1 d1) (.slice A2 m2 d2)) (fun b e => by injection e with e; subst e; exact HRB.out.role)
      have HB5 := Lib.hid (HB.out.stay hf5).below
      have HA5 := Lib.hid ((HN.out.stay hf5).arr (by decide))
      have HK5 := Lib.hid (((HK.out.stay hf5).deepS goesOpt hf5).arr (by decide))
      have HGE := Lib.hid (fun b r (h1 : ρ b = r) (h2 : r ≠ 0) => HB.out.ge h1 h2)
      clear hf5
      go_wp2_with fail
      refine bodyPost_ret (v := .tuple #[.agg #[.int .u16 (id : Nat), .string (str []), .string (str []), .slice A1 m1 d1, .slice A2 m2 d2], .int .i64 (q : Nat), .int .i64 0]) (by simp [results, Tryd.results58]; go_simp) rfl ?_
      simp only [rval_ok, rerr_ok]
      exact ⟨A1, m1, d1, A2, m2, d2, q, rfl, ⟨hid, SPL, NML, HA5.out.mono fun b hb _ => HGE.out b 3 hb (by decide), (HK5.out.mono fun b hb _ => HGE.out b 4 hb (by decide)).imp fun x _ v hp => hp.mono fun b hb _ => HGE.out b 5 hb (by decide)⟩, AtR.ok (by have := HLEN.out; omega) HQ.out, HB5.out⟩
end Go.Proofs.Sb

/- Walk over signalboxref04.Get: a name of its own. Conditions: lengths up to 2^47. (written by gen_ref4get.py) -/
namespace Sb
theorem getO_0e {n : Nat} {cur rest : B} {e : Int} (h : getN 2 cur = .ok (0, rest)) (ht : getText rest = .error e) : getO (n + 1) cur = .error e := by
  rw [getO_0 h, textR_err ht]; rfl
theorem getO_0k {n : Nat} {cur rest s r1 : B} (h : getN 2 cur = .ok (0, rest)) (ht : getText rest = .ok (s, r1)) : getO (n + 1) cur = finO n 0 0 ([], s) (.ok r1) := by
  rw [getO_0 h, textR_ok ht, textV_ok ht]; rfl
end Sb
namespace Go.Proofs.Sb
open Go.RowKit _root_.Sb

set_option maxHeartbeats 8000000 in
set_option maxRecDepth 100000 in
theorem rget4_0 {n : Nat} {S : Nat → Prop} {A : Option Addr} {m c a : Nat} {bs : B} {w : World} {deep : Int} {rs : B} (hg : getN 2 (bs.drop a) = .ok (0, rs)) (hs : Sl S w A m c bs) (hm : m ≤ 140737488355328) (ha : a ≤ m) (hdn : deep + n = 20) (hd1 : 1 ≤ deep) (r : Res Opt) (hr : getO (n + 1) (bs.drop a) = r) :
    Calls Tryd.prog 58 #[.slice A m c, .int .i64 (a : Int), .int .i64 deep] w fun e w' => ∃ A1 n1 c1 A2 n2 c2, ∃ q : Nat, e = .returned (.tuple #[optV (rval Opt.none r) A1 n1 c1 A2 n2 c2, .int .i64 (q : Int), .int .i64 (rerr r)]) ∧ OptR (fun b => w.heap.size ≤ b) w' 9223372036854775807 (n + 1) A1 n1 c1 A2 n2 c2 (rval Opt.none r) ∧ AtR bs q r ∧ Below w.heap.size w w' := by
  have HLEN := Lib.hid hs.len
  have HS := Lib.hid hs.lt; clear hs
  have HR := Lib.hid hr; clear hr
  go_enter Tryd.func58, Tryd.ntmps58
  have HG := Lib.hid hg; clear hg
  have hid : 0 < 65536 := (getN_ok HG.out).2.2.2
  go_wp2_with fail
  refine (rget_any (HS.out.after (by repeat (first | exact Below.refl _ _ | assumption | refine Below.drew ?_ | refine below_drewN ?_ _ | refine Below.alloc ?_ (by first | (simp; done) | omega | (simp; omega)) _ | refine Below.setCell ?_ (by first | (simp; done) | omega | (simp; omega)) _))) ha (by decide) (by decide) _ HG.out).mono ?_
  rintro e w0 ⟨q0, rfl, hq0, rfl⟩
  have hq := hq0.le
  have HQD := Lib.hid hq0.drop
  clear hq0
  simp only [rval_ok, rerr_ok]
  have hqm : q0 ≤ m := by have := HLEN.out; omega
  clear hq
  go_wp2_with fail
  refine (many_any (id := 0) hid _).mono ?_
  rintro e w1 ⟨rfl, hb1⟩
  have hz1 := hb1.size
  simp at hz1
  generalize hρ : xt (xt (xt (fun _ => 0) w.heap.size 2) (w.heap.size + 1) 1) (w.heap.size + 2) 5 = ρ
  have eR : ρ w.heap.size = 2 := by rw [← hρ, xt_lt (by omega), xt_lt (by omega), xt_ge (by omega)]
  have eO : ρ (w.heap.size + 1) = 1 := by rw [← hρ, xt_lt (by omega), xt_ge (by omega)]
  have hbw1 : Below w.heap.size w w1 := Below.trans (by repeat (first | exact Below.refl _ _ | assumption | refine Below.drew ?_ | refine below_drewN ?_ _ | refine Below.alloc ?_ (by first | (simp; done) | omega | (simp; omega)) _ | refine Below.setCell ?_ (by first | (simp; done) | omega | (simp; omega)) _)) (hb1.mono (by simp; omega))
  have HB := Lib.hid (⟨fun b hb _ => by rw [← hρ, xt_lt (by omega), xt_lt (by omega), xt_lt (by omega)], .of_below hbw1⟩ : Bs ρ (fun _ => False) w w1)
  have HO : Hid (Bx (Rl ρ 1) w1 (w.heap.size + 1) [.int .u16 0, .string (str []), .string (str []), .slice none 0 0, .slice none 0 0]) := (Bx.alloc (w.alloc _) #[.int .u16 0, .string (str []), .string (str []), .slice none 0 0, .slice none 0 0] _ (by simpa using eO) (by simp)).after hb1
  have HRB : Hid (Bx (Rl ρ 2) w1 w.heap.size [.int .u16 0, .string (str []), .string (str []), .slice none 0 0, .slice none 0 0]) := ((Bx.alloc w #[.int .u16 0, .string (str []), .string (str []), .slice none 0 0, .slice none 0 0] _ eR).after (Below.alloc (Below.refl _ _) (Nat.le_refl _) _)).after hb1
  have HSw : Hid (Sl (fun b => S b ∧ b < w.heap.size) w1 A m c bs) := HS.out.after hbw1
  clear hρ eR eO hb1 hbw1
  rw [show kn 0 = 0 by decide]
  have o0 := HO.out.c 0 _ rfl
  have o1 := HO.out.c 1 _ rfl
  have o2 := HO.out.c 2 _ rfl
  have o3 := HO.out.c 3 _ rfl
  have o4 := HO.out.c 4 _ rfl
  have g0 := HO.out.fr 0
  have g1 := HO.out.fr 1
  have g2 := HO.out.fr 2
  have g3 := HO.out.fr 3
  have g4 := HO.out.fr 4
  obtain ⟨rt1, hrt1⟩ : ∃ rt, getText (bs.drop q0) = rt := ⟨_, rfl⟩
  have HT1 := Lib.hid hrt1; clear hrt1
  go_wp2_with fail
  refine (rgetText_any (HS.out.after HB.out.below) hm hqm rt1 HT1.out).mono ?_
  rintro e w3 ⟨p1, rfl, hp1, rfl⟩
  have HP1 := Lib.hid hp1; clear hp1
  rw [HQD.out] at HT1
  cases rt1 with
  | error er =>
    have hne : er ≠ 0 := getText_e HT1.out
    simp only [rval_error, rerr_error]
    have hf1 : Fr (Rl ρ 1) w1 (w1.setCell ⟨w.heap.size + 1, 2, none⟩ (.string (str []))) := HO.out.frPut 2 _
    have HRx := Lib.hid (HRB.out.stay hf1)
    have HBx := Lib.hid (HB.out.stay hf1)
    clear hf1
    obtain rfl := HR.out.symm.trans (getO_0e HG.out HT1.out)
    have r0 := HRB.out.c 0 _ rfl
    have r1 := HRB.out.c 1 _ rfl
    have r2 := HRB.out.c 2 _ rfl
    have r3 := HRB.out.c 3 _ rfl
    have r4 := HRB.out.c 4 _ rfl
    have f0 := HRB.out.fr 0
    have f1 := HRB.out.fr 1
    have f2 := HRB.out.fr 2
    have f3 := HRB.out.fr 3
    have f4 := HRB.out.fr 4
    have hrl := HRx.out.lt
    have HB5 := Lib.hid (HBx.out.stay (Fr.of_grown (grow5 _ w.heap.size (.int .u16 0) (.string ⟨#[]⟩) (.string ⟨#[]⟩) (.slice none 0 0) (.slice none 0 0)) (fun b e => by injection e with e; subst e; exact HRx.out.role) : Fr (Rl _ 2) _ _)).below
    go_wp2_with fail
    refine bodyPost_ret (v := .tuple #[.agg #[.int .u16 0, .string ⟨#[]⟩, .string ⟨#[]⟩, .slice none 0 0, .slice none 0 0], .int .i64 0, .int .i64 er]) (by simp [results, Tryd.results58]; go_simp) rfl ?_
    simp only [rval_error, rerr_error]
    exact ⟨none, 0, 0, none, 0, 0, 0, rfl, OptR.none, AtR.err, HB5.out⟩
  | ok p =>
    obtain ⟨s1, rs1⟩ := p
    simp only [rval_ok, rerr_ok]
    have hqm1 : p1 ≤ m := by have := HP1.out.le; have := HLEN.out; omega
    have HQ1 := Lib.hid HP1.out.drop; clear HP1
    have hsl1 : s1.length ≤ 9223372036854775807 := by have := (getText_ok HT1.out).1; omega
    have hf1 : Fr (Rl ρ 1) w1 (w1.setCell ⟨w.heap.size + 1, 2, none⟩ (.string (str s1))) := HO.out.frPut 2 _
    have HO1 : Hid (Bx (Rl ρ 1) (w1.setCell ⟨w.heap.size + 1, 2, none⟩ (.string (str s1))) (w.heap.size + 1) [.int .u16 0, .string (str []), .string (str s1), .slice none 0 0, .slice none 0 0]) := HO.out.put 2 (.string (str s1)) (by show 2 < 5; decide)
    have HR1 := Lib.hid (HRB.out.stay hf1)
    have HB1 := Lib.hid (HB.out.stay hf1)
    clear hf1
    have SPL : ([] : B).length ≤ 9223372036854775807 := Nat.zero_le _
    have NML := hsl1
    have HQL := HQ1
    have HMB := Lib.hid (show 0 ≤ 65536 by omega)
    go_wp2_with fail

    have HGETO := Lib.hid (getO_0k HG.out HT1.out : getO (n + 1) (bs.drop a) = finO n 0 (0) ([], s1) (.ok rs1))
    go_loopw [11, 15] (fun u i wr => ∃ ρ k q A1 m1 d1 A2 m2 d2 l rest, k ≤ 0 ∧ u = .int .i64 (q : Nat) ∧ i = .int .i64 (k : Nat) ∧ Hid (l.length = k) ∧ q ≤ m ∧ Hid (bs.drop q = rest) ∧ Hid (Bx (Rl ρ 1) wr (w.heap.size + 1) [.int .u16 0, .string (str []), .string (str s1), .slice A1 m1 d1, .slice A2 m2 d2]) ∧ Hid (Bx (Rl ρ 2) wr w.heap.size [.int .u16 0, .string (str []), .string (str []), .slice none 0 0, .slice none 0 0]) ∧ Hid (OwnS 9 1 strP (Rl ρ 3) wr A1 m1 d1 (nmsO 0 l)) ∧ Hid (OwnS 62 5 (optD (Rl ρ 5) wr 9223372036854775807 (n + 1)) (Rl ρ 4) wr A2 m2 d2 (l.map (·.2))) ∧ Hid (Bs ρ (fun _ => False) w wr) ∧ Hid (getsM (kidR (getO n) 0) k rs1 = .ok (l, rest))) (fun _ i _ => 0 - (intOf i).toNat)
    case atStart => exact ⟨_, 0, p1, none, 0, 0, none, 0, 0, [], _, by omega, rfl, rfl, rfl, by omega, rfl, HO1, HR1, by (unfold nmsO; split <;> exact OwnS.nil), OwnS.nil, HB1, by rw [HQL.out]; rfl⟩
    case round =>
      obtain ⟨ρ, k, q, A1, m1, d1, A2, m2, d2, l, rest, hk, rfl, rfl, HLL, hqm2, HQ, HO, HRB, HN, HK, HB, HGS⟩ := hrel
      have hzr := HB.out.size
      have hol := HO.out.lt
      have HSr : Hid (Sl (fun b => S b ∧ b < w.heap.size) wr A m c bs) := HS.out.after HB.out.below
      have o0 := HO.out.c 0 _ rfl
      have o1 := HO.out.c 1 _ rfl
      have o2 := HO.out.c 2 _ rfl
      have o3 := HO.out.c 3 _ rfl
      have o4 := HO.out.c 4 _ rfl
      have g0 := HO.out.fr 0
      have g1 := HO.out.fr 1
      have g2 := HO.out.fr 2
      have g3 := HO.out.fr 3
      have g4 := HO.out.fr 4
      obtain rfl : k = 0 := by omega
      obtain rfl := HR.out.symm.trans (HGETO.out.trans (fin_ok HGS.out))
      have r0 := HRB.out.c 0 _ rfl
      have r1 := HRB.out.c 1 _ rfl
      have r2 := HRB.out.c 2 _ rfl
      have r3 := HRB.out.c 3 _ rfl
      have r4 := HRB.out.c 4 _ rfl
      have f0 := HRB.out.fr 0
      have f1 := HRB.out.fr 1
      have f2 := HRB.out.fr 2
      have f3 := HRB.out.fr 3
      have f4 := HRB.out.fr 4
      have hrl := HRB.out.lt
      have hf5 : Fr (Rl ρ 2) wr _ := Fr.of_grown (grow5 wr w.heap.size (.int .u16 0) (.string (str [])) (.string (str s1)) (.slice A1 m1 d1) (.slice A2 m2 d2)) (fun b e => by injection e with e; subst e; exact HRB.out.role)
      have HB5 := Lib.hid (HB.out.stay hf5).below
      have HA5 := Lib.hid ((HN.out.stay hf5).arr (by decide))
      have HK5 := Lib.hid (((HK.out.stay hf5).deepS goesOpt hf5).arr (by decide))
      have HGE := Lib.hid (fun b r (h1 : ρ b = r) (h2 : r ≠ 0) => HB.out.ge h1 h2)
      clear hf5
      go_wp2_with fail
      refine bodyPost_ret (v := .tuple #[.agg #[.int .u16 0, .string (str []), .string (str s1), .slice A1 m1 d1, .slice A2 m2 d2], .int .i64 (q : Nat), .int .i64 0]) (by simp [results, Tryd.results58]; go_simp) rfl ?_
      simp only [rval_ok, rerr_ok]
      exact ⟨A1, m1, d1, A2, m2, d2, q, rfl, ⟨hid, SPL, NML, HA5.out.mono fun b hb _ => HGE.out b 3 hb (by decide), (HK5.out.mono fun b hb _ => HGE.out b 4 hb (by decide)).imp fun x _ v hp => hp.mono fun b hb _ => HGE.out b 5 hb (by decide)⟩, AtR.ok (by have := HLEN.out; omega) HQ.out, HB5.out⟩
end Go.Proofs.Sb

/- Walk over signalboxref04.Get: types in a row. Conditions: lengths up to 2^47. (written by gen_ref4get.py) -/
namespace Sb
theorem getO_49e {n : Nat} {cur rest : B} {e : Int} (h : getN 2 cur = .ok (49, rest)) (ht : getN 2 rest = .error e) : getO (n + 1) cur = .error e := by
  rw [getO_49 h, shortR_err ht]; rfl
theorem getO_49k {n : Nat} {cur rest r1 : B} {M : Nat} (h : getN 2 cur = .ok (49, rest)) (ht : getN 2 rest = .ok (M, r1)) : getO (n + 1) cur = finO n 49 M ([], []) (.ok r1) := by
  rw [getO_49 h, shortR_ok ht, shortV_ok ht]; rfl
end Sb
namespace Go.Proofs.Sb
open Go.RowKit _root_.Sb

set_option maxHeartbeats 8000000 in
set_option maxRecDepth 100000 in
theorem rget4_49 {n : Nat} {S : Nat → Prop} {A : Option Addr} {m c a : Nat} {bs : B} {w : World} {deep : Int} (ih : Get4 n) {rs : B} (hg : getN 2 (bs.drop a) = .ok (49, rs)) (hs : Sl S w A m c bs) (hm : m ≤ 140737488355328) (ha : a ≤ m) (hdn : deep + n = 20) (hd1 : 1 ≤ deep) (r : Res Opt) (hr : getO (n + 1) (bs.drop a) = r) :
    Calls Tryd.prog 58 #[.slice A m c, .int .i64 (a : Int), .int .i64 deep] w fun e w' => ∃ A1 n1 c1 A2 n2 c2, ∃ q : Nat, e = .returned (.tuple #[optV (rval Opt.none r) A1 n1 c1 A2 n2 c2, .int .i64 (q : Int), .int .i64 (rerr r)]) ∧ OptR (fun b => w.heap.size ≤ b) w' 9223372036854775807 (n + 1) A1 n1 c1 A2 n2 c2 (rval Opt.none r) ∧ AtR bs q r ∧ Below w.heap.size w w' := by
  have HLEN := Lib.hid hs.len
  have HS := Lib.hid hs.lt; clear hs
  have HR := Lib.hid hr; clear hr
  go_enter Tryd.func58, Tryd.ntmps58
  have HG := Lib.hid hg; clear hg
  have hi48 : ¬ (49 : Nat) = 48 := by decide
  have hid : 49 < 65536 := (getN_ok HG.out).2.2.2
  go_wp2_with fail
  refine (rget_any (HS.out.after (by repeat (first | exact Below.refl _ _ | assumption | refine Below.drew ?_ | refine below_drewN ?_ _ | refine Below.alloc ?_ (by first | (simp; done) | omega | (simp; omega)) _ | refine Below.setCell ?_ (by first | (simp; done) | omega | (simp; omega)) _))) ha (by decide) (by decide) _ HG.out).mono ?_
  rintro e w0 ⟨q0, rfl, hq0, rfl⟩
  have hq := hq0.le
  have HQD := Lib.hid hq0.drop
  clear hq0
  simp only [rval_ok, rerr_ok]
  have hqm : q0 ≤ m := by have := HLEN.out; omega
  clear hq
  go_wp2_with fail
  refine (many_any (id := 49) hid _).mono ?_
  rintro e w1 ⟨rfl, hb1⟩
  have hz1 := hb1.size
  simp at hz1
  generalize hρ : xt (xt (xt (fun _ => 0) w.heap.size 2) (w.heap.size + 1) 1) (w.heap.size + 2) 5 = ρ
  have eR : ρ w.heap.size = 2 := by rw [← hρ, xt_lt (by omega), xt_lt (by omega), xt_ge (by omega)]
  have eO : ρ (w.heap.size + 1) = 1 := by rw [← hρ, xt_lt (by omega), xt_ge (by omega)]
  have hbw1 : Below w.heap.size w w1 := Below.trans (by repeat (first | exact Below.refl _ _ | assumption | refine Below.drew ?_ | refine below_drewN ?_ _ | refine Below.alloc ?_ (by first | (simp; done) | omega | (simp; omega)) _ | refine Below.setCell ?_ (by first | (simp; done) | omega | (simp; omega)) _)) (hb1.mono (by simp; omega))
  have HB := Lib.hid (⟨fun b hb _ => by rw [← hρ, xt_lt (by omega), xt_lt (by omega), xt_lt (by omega)], .of_below hbw1⟩ : Bs ρ (fun _ => False) w w1)
  have HO : Hid (Bx (Rl ρ 1) w1 (w.heap.size + 1) [.int .u16 49, .string (str []), .string (str []), .slice none 0 0, .slice none 0 0]) := (Bx.alloc (w.alloc _) #[.int .u16 49, .string (str []), .string (str []), .slice none 0 0, .slice none 0 0] _ (by simpa using eO) (by simp)).after hb1
  have HRB : Hid (Bx (Rl ρ 2) w1 w.heap.size [.int .u16 0, .string (str []), .string (str []), .slice none 0 0, .slice none 0 0]) := ((Bx.alloc w #[.int .u16 0, .string (str []), .string (str []), .slice none 0 0, .slice none 0 0] _ eR).after (Below.alloc (Below.refl _ _) (Nat.le_refl _) _)).after hb1
  have HSw : Hid (Sl (fun b => S b ∧ b < w.heap.size) w1 A m c bs) := HS.out.after hbw1
  clear hρ eR eO hb1 hbw1
  rw [show kn 49 = -1 by decide]
  have o0 := HO.out.c 0 _ rfl
  have o1 := HO.out.c 1 _ rfl
  have o2 := HO.out.c 2 _ rfl
  have o3 := HO.out.c 3 _ rfl
  have o4 := HO.out.c 4 _ rfl
  have g0 := HO.out.fr 0
  have g1 := HO.out.fr 1
  have g2 := HO.out.fr 2
  have g3 := HO.out.fr 3
  have g4 := HO.out.fr 4
  obtain ⟨rc, hrc⟩ : ∃ rc, getN 2 (bs.drop q0) = rc := ⟨_, rfl⟩
  have HC := Lib.hid hrc; clear hrc
  go_wp2_with fail
  refine (rget_any (HS.out.after HB.out.below) hqm (by decide) (by decide) rc HC.out).mono ?_
  rintro e w3 ⟨pc, rfl, hpc, rfl⟩
  have HPC := Lib.hid hpc; clear hpc
  rw [HQD.out] at HC
  cases rc with
  | error er =>
    have hne : er ≠ 0 := by have := getN_err HC.out; omega
    simp only [rval_error, rerr_error]
    obtain rfl := HR.out.symm.trans (getO_49e HG.out HC.out)
    have r0 := HRB.out.c 0 _ rfl
    have r1 := HRB.out.c 1 _ rfl
    have r2 := HRB.out.c 2 _ rfl
    have r3 := HRB.out.c 3 _ rfl
    have r4 := HRB.out.c 4 _ rfl
    have f0 := HRB.out.fr 0
    have f1 := HRB.out.fr 1
    have f2 := HRB.out.fr 2
    have f3 := HRB.out.fr 3
    have f4 := HRB.out.fr 4
    have hrl := HRB.out.lt
    have HB5 := Lib.hid (HB.out.stay (Fr.of_grown (grow5 _ w.heap.size (.int .u16 0) (.string ⟨#[]⟩) (.string ⟨#[]⟩) (.slice none 0 0) (.slice none 0 0)) (fun b e => by injection e with e; subst e; exact HRB.out.role) : Fr (Rl _ 2) _ _)).below
    go_wp2_with fail
    refine bodyPost_ret (v := .tuple #[.agg #[.int .u16 0, .string ⟨#[]⟩, .string ⟨#[]⟩, .slice none 0 0, .slice none 0 0], .int .i64 0, .int .i64 er]) (by simp [results, Tryd.results58]; go_simp) rfl ?_
    simp only [rval_error, rerr_error]
    exact ⟨none, 0, 0, none, 0, 0, 0, rfl, OptR.none, AtR.err, HB5.out⟩
  | ok p =>
    obtain ⟨M, rsc⟩ := p
    simp only [rval_ok, rerr_ok]
    have hMlt : M < 65536 := (getN_ok HC.out).2.2.2
    have hqmc : pc ≤ m := by have := HPC.out.le; have := HLEN.out; omega
    have HQL := Lib.hid HPC.out.drop; clear HPC
    have HMB := Lib.hid (show M ≤ 65536 by omega)
    go_wp2_with fail
    have SPL : ([] : B).length ≤ 9223372036854775807 := Nat.zero_le _
    have NML : ([] : B).length ≤ 9223372036854775807 := Nat.zero_le _

    have HGETO := Lib.hid (getO_49k HG.out HC.out : getO (n + 1) (bs.drop a) = finO n 49 (M) ([], []) (.ok rsc))
    go_loopw [11, 15] (fun u i wr => ∃ ρ k q A1 m1 d1 A2 m2 d2 l rest, k ≤ M ∧ u = .int .i64 (q : Nat) ∧ i = .int .i64 (k : Nat) ∧ Hid (l.length = k) ∧ q ≤ m ∧ Hid (bs.drop q = rest) ∧ Hid (Bx (Rl ρ 1) wr (w.heap.size + 1) [.int .u16 49, .string (str []), .string (str []), .slice A1 m1 d1, .slice A2 m2 d2]) ∧ Hid (Bx (Rl ρ 2) wr w.heap.size [.int .u16 0, .string (str []), .string (str []), .slice none 0 0, .slice none 0 0]) ∧ Hid (OwnS 9 1 strP (Rl ρ 3) wr A1 m1 d1 (nmsO 49 l)) ∧ Hid (OwnS 62 5 (optD (Rl ρ 5) wr 9223372036854775807 (n + 1)) (Rl ρ 4) wr A2 m2 d2 (l.map (·.2))) ∧ Hid (Bs ρ (fun _ => False) w wr) ∧ Hid (getsM (kidR (getO n) 49) k rsc = .ok (l, rest))) (fun _ i _ => M - (intOf i).toNat)
    case atStart => exact ⟨_, 0, pc, none, 0, 0, none, 0, 0, [], _, by omega, rfl, rfl, rfl, by omega, rfl, HO, HRB, by (unfold nmsO; split <;> exact OwnS.nil), OwnS.nil, HB, by rw [HQL.out]; rfl⟩
    case round =>
      obtain ⟨ρ, k, q, A1, m1, d1, A2, m2, d2, l, rest, hk, rfl, rfl, HLL, hqm2, HQ, HO, HRB, HN, HK, HB, HGS⟩ := hrel
      have hzr := HB.out.size
      have hol := HO.out.lt
      have HSr : Hid (Sl (fun b => S b ∧ b < w.heap.size) wr A m c bs) := HS.out.after HB.out.below
      have o0 := HO.out.c 0 _ rfl
      have o1 := HO.out.c 1 _ rfl
      have o2 := HO.out.c 2 _ rfl
      have o3 := HO.out.c 3 _ rfl
      have o4 := HO.out.c 4 _ rfl
      have g0 := HO.out.fr 0
      have g1 := HO.out.fr 1
      have g2 := HO.out.fr 2
      have g3 := HO.out.fr 3
      have g4 := HO.out.fr 4
      by_cases hlt : k < M
      · have HSW := HSr
        go_wp2_with fail
        refine (ih (deep := deep + 1) (a := q) (HSW.out.after (by repeat (first | exact Below.refl _ _ | assumption | refine Below.drew ?_ | refine below_drewN ?_ _ | refine Below.alloc ?_ (by first | (simp; done) | omega | (simp; omega)) _ | refine Below.setCell ?_ (by first | (simp; done) | omega | (simp; omega)) _))) hm (by omega) (by omega) (by omega) _ rfl).mono ?_
        rintro e2 w2 ⟨B1, p1, u1, B2, p2, u2, q2, rfl, hx2, hq2, hb2⟩
        have hbK : Below wr.heap.size wr w2 := Below.trans (by repeat (first | exact Below.refl _ _ | assumption | refine Below.drew ?_ | refine below_drewN ?_ _ | refine Below.alloc ?_ (by first | (simp; done) | omega | (simp; omega)) _ | refine Below.setCell ?_ (by first | (simp; done) | omega | (simp; omega)) _)) (hb2.mono (by simp))
        have hzk := hb2.size
        simp at hzk
        have HKB : Hid (Bx (Rl (xt (xt ρ wr.heap.size 6) (wr.heap.size + 1) 5) 6) w2 wr.heap.size [.int .u16 0, .string (str []), .string (str []), .slice none 0 0, .slice none 0 0]) := (Bx.alloc wr #[.int .u16 0, .string (str []), .string (str []), .slice none 0 0, .slice none 0 0] _ two_at).after hb2
        have HO2 := Lib.hid (HO.out.two hbK 6 5); clear HO
        have HR2 := Lib.hid (HRB.out.two hbK 6 5); clear HRB
        have HN2 := Lib.hid (HN.out.two hbK 6 5); clear HN
        have HK2 := Lib.hid ((HK.out.two hbK 6 5).deep2 goesOpt hbK 6 5); clear HK
        have HB2 := Lib.hid (HB.out.two hbK 6 5); clear HB
        have HX2 : Hid (OptR (Rl (xt (xt ρ wr.heap.size 6) (wr.heap.size + 1) 5) 5) w2 9223372036854775807 n B1 p1 u1 B2 p2 u2 _) := hx2.mono fun b hb _ => two_ge (by simpa using hb)
        have HQ2 := Lib.hid hq2
        clear hx2 hq2 hbK hb2
        obtain ⟨ρk, hρk⟩ : ∃ ρk, ρk = xt (xt ρ wr.heap.size 6) (wr.heap.size + 1) 5 := ⟨_, rfl⟩
        rw [← hρk] at HKB HO2 HR2 HN2 HK2 HB2 HX2
        clear hρk
        have k0 := HKB.out.c 0 _ rfl
        have k1 := HKB.out.c 1 _ rfl
        have k2 := HKB.out.c 2 _ rfl
        have k3 := HKB.out.c 3 _ rfl
        have k4 := HKB.out.c 4 _ rfl
        have h0 := HKB.out.fr 0
        have h1 := HKB.out.fr 1
        have h2 := HKB.out.fr 2
        have h3 := HKB.out.fr 3
        have h4 := HKB.out.fr 4
        clear o0 o1 o2 o3 o4 g0 g1 g2 g3 g4
        have hkl := HKB.out.lt
        have hol2 := HO2.out.lt
        obtain ⟨rx, hrx⟩ : ∃ rx, getO n (bs.drop q) = rx := ⟨_, rfl⟩
        have HRX := Lib.hid hrx
        rw [hrx] at HX2 HQ2 ⊢
        clear hrx
        rw [HQ.out] at HRX
        cases rx with
        | error er =>
          have hne : er ≠ 0 := getO_ne HRX.out
          simp only [rval_error, rerr_error]
          have hfk : Fr (Rl ρk 6) w2 _ := Fr.of_grown (grow5 w2 wr.heap.size (.int .u16 (Opt.none.id : Int)) (.string (str Opt.none.space)) (.string (str Opt.none.name)) (.slice B1 p1 u1) (.slice B2 p2 u2)) (fun b e => by injection e with e; subst e; exact HKB.out.role)
          have HR3 := Lib.hid (HR2.out.stay hfk)
          have HB3 := Lib.hid (HB2.out.stay hfk)
          clear hfk
          obtain rfl := HR.out.symm.trans (HGETO.out.trans (fin_err HGS.out hlt (kid4_no hi48 HRX.out)))
          have r0 := HR2.out.c 0 _ rfl
          have r1 := HR2.out.c 1 _ rfl
          have r2 := HR2.out.c 2 _ rfl
          have r3 := HR2.out.c 3 _ rfl
          have r4 := HR2.out.c 4 _ rfl
          have f0 := HR2.out.fr 0
          have f1 := HR2.out.fr 1
          have f2 := HR2.out.fr 2
          have f3 := HR2.out.fr 3
          have f4 := HR2.out.fr 4
          have hrl := HR3.out.lt
          have HB5 := Lib.hid (HB3.out.stay (Fr.of_grown (grow5 _ w.heap.size (.int .u16 0) (.string ⟨#[]⟩) (.string ⟨#[]⟩) (.slice none 0 0) (.slice none 0 0)) (fun b e => by injection e with e; subst e; exact HR3.out.role) : Fr (Rl _ 2) _ _)).below
          go_wp2_with fail
          refine bodyPost_ret (v := .tuple #[.agg #[.int .u16 0, .string ⟨#[]⟩, .string ⟨#[]⟩, .slice none 0 0, .slice none 0 0], .int .i64 0, .int .i64 er]) (by simp [results, Tryd.results58]; go_simp) rfl ?_
          simp only [rval_error, rerr_error]
          exact ⟨none, 0, 0, none, 0, 0, 0, rfl, OptR.none, AtR.err, HB5.out⟩
        | ok p =>
          obtain ⟨ox, rest2⟩ := p
          simp only [rval_ok, rerr_ok] at HX2 ⊢
          have o0 := HO2.out.c 0 _ rfl
          have o1 := HO2.out.c 1 _ rfl
          have o2 := HO2.out.c 2 _ rfl
          have o3 := HO2.out.c 3 _ rfl
          have o4 := HO2.out.c 4 _ rfl
          have g0 := HO2.out.fr 0
          have g1 := HO2.out.fr 1
          have g2 := HO2.out.fr 2
          have g3 := HO2.out.fr 3
          have g4 := HO2.out.fr 4
          have hq2m : q2 ≤ m := by have := HQ2.out.le; have := HLEN.out; omega
          have HQD2 := Lib.hid HQ2.out.drop; clear HQ2
          have hfk : Fr (Rl ρk 6) w2 _ := Fr.of_grown (grow5 w2 wr.heap.size (.int .u16 (ox.id : Int)) (.string (str ox.space)) (.string (str ox.name)) (.slice B1 p1 u1) (.slice B2 p2 u2)) (fun b e => by injection e with e; subst e; exact HKB.out.role)
          have HO3 := Lib.hid (HO2.out.stay hfk); clear HO2
          have HR3 := Lib.hid (HR2.out.stay hfk); clear HR2
          have HN3 := Lib.hid (HN2.out.stay hfk); clear HN2
          have HK3 := Lib.hid (HK2.out.stay hfk); clear HK2
          have HB3 := Lib.hid (HB2.out.stay hfk); clear HB2
          have HFK := Lib.hid hfk; clear hfk
          have hml := HK3.out.len (by decide)
          have hmk : m2 ≤ 65536 := by have := HLL.out; rw [List.length_map] at hml; have := HMB.out; omega
          clear hml
          go_wp2_with (first | (at_builtin; refine wpList_appX rfl tyOpt _ _ rfl (ρ := ρk) (r := 4) _ _ _ (l.map (·.2)) rfl (HK3.out.after ((Below.refl _ _).alloc (Nat.le_refl _) _)) _ _ _ _ [ox] rfl (arr_lit (P := optD (Rl ρk 5) w2 9223372036854775807 (n + 1)) _ #[.int .u16 (ox.id : Int), .string (str ox.space), .string (str ox.name), .slice B1 p1 u1, .slice B2 p2 u2] ox rfl HX2.out.to (by simp)) (fun _ _ h => h.one) (fun _ _ _ h => h) (by omega) (by unfold maxLen; omega) ?_; intro A4 m4 d4 w5 ρ5 hx5 hown5 hf45; have HX5 := Lib.hid hx5; clear hx5; have HO5 := Lib.hid ((HO3.out.after ((Below.refl _ _).alloc (Nat.le_refl _) _)).stepx hf45 HX5.out); have o45 := HO5.out.c 4 _ rfl; have f45 := HO5.out.fr 4))
          have hf56 : Fr (Rl ρ5 1) w5 (w5.setCell ⟨w.heap.size + 1, 4, none⟩ (.slice A4 m4 d4)) := HO5.out.frPut 4 _
          have HO6 : Hid (Bx (Rl ρ5 1) (w5.setCell ⟨w.heap.size + 1, 4, none⟩ (.slice A4 m4 d4)) (w.heap.size + 1) [.int .u16 49, .string (str []), .string (str []), .slice A1 m1 d1, .slice A4 m4 d4]) := HO5.out.put 4 (.slice A4 m4 d4) (by show 4 < 5; decide)
          have HR6 := Lib.hid (((HR3.out.after ((Below.refl _ _).alloc (Nat.le_refl _) _)).stepx hf45 HX5.out).stay hf56)
          have HN6 := Lib.hid (((HN3.out.after ((Below.refl _ _).alloc (Nat.le_refl _) _)).stepx hf45 HX5.out).stay hf56)
          have HB6 := Lib.hid (((HB3.out.after ((Below.refl _ _).alloc (Nat.le_refl _) _)).stepx hf45 HX5.out).stay hf56)
          have HK6 := Lib.hid (((((hown5.deepS goesOpt HFK.out).deepA goesOpt ((Below.refl _ _).alloc (Nat.le_refl _) _)).deepx goesOpt hf45 HX5.out).stay hf56).deepS goesOpt hf56)
          have HGS2 : Hid (getsM (kidR (getO n) 49) (k + 1) _ = .ok (l ++ [([], ox)], rest2)) := getsM_snoc HGS.out (kid4_no hi48 HRX.out)
          first
            | refine ⟨⟨_, _, _, _, _, ⟨ρ5, k + 1, by omega, q2, rfl, by go_num, A1, m1, d1, A4, m4, d4, l ++ [([], ox)], (by have := HLL.out; show (l ++ [_]).length = k + 1; rw [List.length_append, this]; rfl), hq2m, rest2, HQD2, HO6, HR6, HN6.out.as (nms_snoc_no hi48 l ([], ox)).symm, HK6.out.as (by simp), HB6, HGS2⟩, rfl, rfl, rfl, rfl, rfl⟩, by simp [intOf]; omega⟩
            | refine ⟨⟨ρ5, k + 1, q2, A1, m1, d1, A4, m4, d4, l ++ [([], ox)], rest2, by omega, rfl, by go_num, (by have := HLL.out; show (l ++ [_]).length = k + 1; rw [List.length_append, this]; rfl), hq2m, HQD2, HO6, HR6, HN6.out.as (nms_snoc_no hi48 l ([], ox)).symm, HK6.out.as (by simp), HB6, HGS2⟩, by simp [intOf]; omega⟩
      · obtain rfl : k = M := by omega
        obtain rfl := HR.out.symm.trans (HGETO.out.trans (fin_ok HGS.out))
        have r0 := HRB.out.c 0 _ rfl
        have r1 := HRB.out.c 1 _ rfl
        have r2 := HRB.out.c 2 _ rfl
        have r3 := HRB.out.c 3 _ rfl
        have r4 := HRB.out.c 4 _ rfl
        have f0 := HRB.out.fr 0
        have f1 := HRB.out.fr 1
        have f2 := HRB.out.fr 2
        have f3 := HRB.out.fr 3
        have f4 := HRB.out.fr 4
        have hrl := HRB.out.lt
        have hf5 : Fr (Rl ρ 2) wr _ := Fr.of_grown (grow5 wr w.heap.size (.int .u16 49) (.string (str [])) (.string (str [])) (.slice A1 m1 d1) (.slice A2 m2 d2)) (fun b e => by injection e with e; subst e; exact HRB.out.role)
        have HB5 := Lib.hid (HB.out.stay hf5).below
        have HA5 := Lib.hid ((HN.out.stay hf5).arr (by decide))
        have HK5 := Lib.hid (((HK.out.stay hf5).deepS goesOpt hf5).arr (by decide))
        have HGE := Lib.hid (fun b r (h1 : ρ b = r) (h2 : r ≠ 0) => HB.out.ge h1 h2)
        clear hf5
        go_wp2_with fail
        refine bodyPost_ret (v := .tuple #[.agg #[.int .u16 49, .string (str []), .string (str []), .slice A1 m1 d1, .slice A2 m2 d2], .int .i64 (q : Nat), .int .i64 0]) (by simp [results, Tryd.results58]; go_simp) rfl ?_
        simp only [rval_ok, rerr_ok]
        exact ⟨A1, m1, d1, A2, m2, d2, q, rfl, ⟨hid, SPL, NML, HA5.out.mono fun b hb _ => HGE.out b 3 hb (by decide), (HK5.out.mono fun b hb _ => HGE.out b 4 hb (by decide)).imp fun x _ v hp => hp.mono fun b hb _ => HGE.out b 5 hb (by decide)⟩, AtR.ok (by have := HLEN.out; omega) HQ.out, HB5.out⟩
end Go.Proofs.Sb

/- Walk over signalboxref04.Get: names and types. Conditions: lengths up to 2^47. (written by gen_ref4get.py) -/
namespace Sb
theorem getO_48a {n : Nat} {cur rest : B} {e : Int} (h : getN 2 cur = .ok (48, rest)) (ht : getText rest = .error e) : getO (n + 1) cur = .error e := by
  rw [getO_48 h, textR_err ht]; rfl
theorem getO_48b {n : Nat} {cur rest s r1 : B} {e : Int} (h : getN 2 cur = .ok (48, rest)) (ht : getText rest = .ok (s, r1)) (h2 : getText r1 = .error e) : getO (n + 1) cur = .error e := by
  rw [getO_48 h, textR_ok ht, textR_err h2]; rfl
theorem getO_48c {n : Nat} {cur rest s r1 s2 r2 : B} {e : Int} (h : getN 2 cur = .ok (48, rest)) (ht : getText rest = .ok (s, r1)) (h2 : getText r1 = .ok (s2, r2)) (h3 : getN 2 r2 = .error e) : getO (n + 1) cur = .error e := by
  rw [getO_48 h, textR_ok ht, textR_ok h2, shortR_err h3]; rfl
theorem getO_48k {n : Nat} {cur rest s r1 s2 r2 r3 : B} {M : Nat} (h : getN 2 cur = .ok (48, rest)) (ht : getText rest = .ok (s, r1)) (h2 : getText r1 = .ok (s2, r2)) (h3 : getN 2 r2 = .ok (M, r3)) : getO (n + 1) cur = finO n 48 M (s, s2) (.ok r3) := by
  rw [getO_48 h, textR_ok ht, textV_ok ht, textR_ok h2, textV_ok h2, shortR_ok h3, shortV_ok h3]; rfl
end Sb
namespace Go.Proofs.Sb
open Go.RowKit _root_.Sb

set_option maxHeartbeats 8000000 in
set_option maxRecDepth 100000 in
theorem rget4_48 {n : Nat} {S : Nat → Prop} {A : Option Addr} {m c a : Nat} {bs : B} {w : World} {deep : Int} (ih : Get4 n) {rs : B} (hg : getN 2 (bs.drop a) = .ok (48, rs)) (hs : Sl S w A m c bs) (hm : m ≤ 140737488355328) (ha : a ≤ m) (hdn : deep + n = 20) (hd1 : 1 ≤ deep) (r : Res Opt) (hr : getO (n + 1) (bs.drop a) = r) :
    Calls Tryd.prog 58 #[.slice A m c, .int .i64 (a : Int), .int .i64 deep] w fun e w' => ∃ A1 n1 c1 A2 n2 c2, ∃ q : Nat, e = .returned (.tuple #[optV (rval Opt.none r) A1 n1 c1 A2 n2 c2, .int .i64 (q : Int), .int .i64 (rerr r)]) ∧ OptR (fun b => w.heap.size ≤ b) w' 9223372036854775807 (n + 1) A1 n1 c1 A2 n2 c2 (rval Opt.none r) ∧ AtR bs q r ∧ Below w.heap.size w w' := by
  have HLEN := Lib.hid hs.len
  have HS := Lib.hid hs.lt; clear hs
  have HR := Lib.hid hr; clear hr
  go_enter Tryd.func58, Tryd.ntmps58
  have HG := Lib.hid hg; clear hg
  have hid : 48 < 65536 := (getN_ok HG.out).2.2.2
  go_wp2_with fail
  refine (rget_any (HS.out.after (by repeat (first | exact Below.refl _ _ | assumption | refine Below.drew ?_ | refine below_drewN ?_ _ | refine Below.alloc ?_ (by first | (simp; done) | omega | (simp; omega)) _ | refine Below.setCell ?_ (by first | (simp; done) | omega | (simp; omega)) _))) ha (by decide) (by decide) _ HG.out).mono ?_
  rintro e w0 ⟨q0, rfl, hq0, rfl⟩
  have hq := hq0.le
  have HQD := Lib.hid hq0.drop
  clear hq0
  simp only [rval_ok, rerr_ok]
  have hqm : q0 ≤ m := by have := HLEN.out; omega
  clear hq
  go_wp2_with fail
  refine (many_any (id := 48) hid _).mono ?_
  rintro e w1 ⟨rfl, hb1⟩
  have hz1 := hb1.size
  simp at hz1
  generalize hρ : xt (xt (xt (fun _ => 0) w.heap.size 2) (w.heap.size + 1) 1) (w.heap.size + 2) 5 = ρ
  have eR : ρ w.heap.size = 2 := by rw [← hρ, xt_lt (by omega), xt_lt (by omega), xt_ge (by omega)]
  have eO : ρ (w.heap.size + 1) = 1 := by rw [← hρ, xt_lt (by omega), xt_ge (by omega)]
  have hbw1 : Below w.heap.size w w1 := Below.trans (by repeat (first | exact Below.refl _ _ | assumption | refine Below.drew ?_ | refine below_drewN ?_ _ | refine Below.alloc ?_ (by first | (simp; done) | omega | (simp; omega)) _ | refine Below.setCell ?_ (by first | (simp; done) | omega | (simp; omega)) _)) (hb1.mono (by simp; omega))
  have HB := Lib.hid (⟨fun b hb _ => by rw [← hρ, xt_lt (by omega), xt_lt (by omega), xt_lt (by omega)], .of_below hbw1⟩ : Bs ρ (fun _ => False) w w1)
  have HO : Hid (Bx (Rl ρ 1) w1 (w.heap.size + 1) [.int .u16 48, .string (str []), .string (str []), .slice none 0 0, .slice none 0 0]) := (Bx.alloc (w.alloc _) #[.int .u16 48, .string (str []), .string (str []), .slice none 0 0, .slice none 0 0] _ (by simpa using eO) (by simp)).after hb1
  have HRB : Hid (Bx (Rl ρ 2) w1 w.heap.size [.int .u16 0, .string (str []), .string (str []), .slice none 0 0, .slice none 0 0]) := ((Bx.alloc w #[.int .u16 0, .string (str []), .string (str []), .slice none 0 0, .slice none 0 0] _ eR).after (Below.alloc (Below.refl _ _) (Nat.le_refl _) _)).after hb1
  have HSw : Hid (Sl (fun b => S b ∧ b < w.heap.size) w1 A m c bs) := HS.out.after hbw1
  clear hρ eR eO hb1 hbw1
  rw [show kn 48 = -1 by decide]
  have o0 := HO.out.c 0 _ rfl
  have o1 := HO.out.c 1 _ rfl
  have o2 := HO.out.c 2 _ rfl
  have o3 := HO.out.c 3 _ rfl
  have o4 := HO.out.c 4 _ rfl
  have g0 := HO.out.fr 0
  have g1 := HO.out.fr 1
  have g2 := HO.out.fr 2
  have g3 := HO.out.fr 3
  have g4 := HO.out.fr 4
  obtain ⟨rt1, hrt1⟩ : ∃ rt, getText (bs.drop q0) = rt := ⟨_, rfl⟩
  have HT1 := Lib.hid hrt1; clear hrt1
  go_wp2_with fail
  refine (rgetText_any (HS.out.after HB.out.below) hm hqm rt1 HT1.out).mono ?_
  rintro e w3 ⟨p1, rfl, hp1, rfl⟩
  have HP1 := Lib.hid hp1; clear hp1
  rw [HQD.out] at HT1
  cases rt1 with
  | error er =>
    have hne : er ≠ 0 := getText_e HT1.out
    simp only [rval_error, rerr_error]
    have hf1 : Fr (Rl ρ 1) w1 (w1.setCell ⟨w.heap.size + 1, 1, none⟩ (.string (str []))) := HO.out.frPut 1 _
    have HRx := Lib.hid (HRB.out.stay hf1)
    have HBx := Lib.hid (HB.out.stay hf1)
    clear hf1
    obtain rfl := HR.out.symm.trans (getO_48a HG.out HT1.out)
    have r0 := HRB.out.c 0 _ rfl
    have r1 := HRB.out.c 1 _ rfl
    have r2 := HRB.out.c 2 _ rfl
    have r3 := HRB.out.c 3 _ rfl
    have r4 := HRB.out.c 4 _ rfl
    have f0 := HRB.out.fr 0
    have f1 := HRB.out.fr 1
    have f2 := HRB.out.fr 2
    have f3 := HRB.out.fr 3
    have f4 := HRB.out.fr 4
    have hrl := HRx.out.lt
    have HB5 := Lib.hid (HBx.out.stay (Fr.of_grown (grow5 _ w.heap.size (.int .u16 0) (.string ⟨#[]⟩) (.string ⟨#[]⟩) (.slice none 0 0) (.slice none 0 0)) (fun b e => by injection e with e; subst e; exact HRx.out.role) : Fr (Rl _ 2) _ _)).below
    go_wp2_with fail
    refine bodyPost_ret (v := .tuple #[.agg #[.int .u16 0, .string ⟨#[]⟩, .string ⟨#[]⟩, .slice none 0 0, .slice none 0 0], .int .i64 0, .int .i64 er]) (by simp [results, Tryd.results58]; go_simp) rfl ?_
    simp only [rval_error, rerr_error]
    exact ⟨none, 0, 0, none, 0, 0, 0, rfl, OptR.none, AtR.err, HB5.out⟩
  | ok p =>
    obtain ⟨s1, rs1⟩ := p
    simp only [rval_ok, rerr_ok]
    have hqm1 : p1 ≤ m := by have := HP1.out.le; have := HLEN.out; omega
    have HQ1 := Lib.hid HP1.out.drop; clear HP1
    have hsl1 : s1.length ≤ 9223372036854775807 := by have := (getText_ok HT1.out).1; omega
    have hf1 : Fr (Rl ρ 1) w1 (w1.setCell ⟨w.heap.size + 1, 1, none⟩ (.string (str s1))) := HO.out.frPut 1 _
    have HO1 : Hid (Bx (Rl ρ 1) (w1.setCell ⟨w.heap.size + 1, 1, none⟩ (.string (str s1))) (w.heap.size + 1) [.int .u16 48, .string (str s1), .string (str []), .slice none 0 0, .slice none 0 0]) := HO.out.put 1 (.string (str s1)) (by show 1 < 5; decide)
    have HR1 := Lib.hid (HRB.out.stay hf1)
    have HB1 := Lib.hid (HB.out.stay hf1)
    clear hf1
    obtain ⟨rt2, hrt2⟩ : ∃ rt, getText (bs.drop p1) = rt := ⟨_, rfl⟩
    have HT2 := Lib.hid hrt2; clear hrt2
    go_wp2_with fail
    refine (rgetText_any (HS.out.after HB1.out.below) hm hqm1 rt2 HT2.out).mono ?_
    rintro e w3 ⟨p2, rfl, hp2, rfl⟩
    have HP2 := Lib.hid hp2; clear hp2
    rw [HQ1.out] at HT2
    cases rt2 with
    | error er =>
      have hne : er ≠ 0 := getText_e HT2.out
      simp only [rval_error, rerr_error]
      have hf2 : Fr (Rl ρ 1) (w1.setCell ⟨w.heap.size + 1, 1, none⟩ (.string (str s1))) ((w1.setCell ⟨w.heap.size + 1, 1, none⟩ (.string (str s1))).setCell ⟨w.heap.size + 1, 2, none⟩ (.string (str []))) := HO1.out.frPut 2 _
      have HRx := Lib.hid (HR1.out.stay hf2)
      have HBx := Lib.hid (HB1.out.stay hf2)
      clear hf2
      obtain rfl := HR.out.symm.trans (getO_48b HG.out HT1.out HT2.out)
      have r0 := HRB.out.c 0 _ rfl
      have r1 := HRB.out.c 1 _ rfl
      have r2 := HRB.out.c 2 _ rfl
      have r3 := HRB.out.c 3 _ rfl
      have r4 := HRB.out.c 4 _ rfl
      have f0 := HRB.out.fr 0
      have f1 := HRB.out.fr 1
      have f2 := HRB.out.fr 2
      have f3 := HRB.out.fr 3
      have f4 := HRB.out.fr 4
      have hrl := HRx.out.lt
      have HB5 := Lib.hid (HBx.out.stay (Fr.of_grown (grow5 _ w.heap.size (.int .u16 0) (.string ⟨#[]⟩) (.string ⟨#[]⟩) (.slice none 0 0) (.slice none 0 0)) (fun b e => by injection e with e; subst e; exact HRx.out.role) : Fr (Rl _ 2) _ _)).below
      go_wp2_with fail
      refine bodyPost_ret (v := .tuple #[.agg #[.int .u16 0, .string ⟨#[]⟩, .string ⟨#[]⟩, .slice none 0 0, .slice none 0 0], .int .i64 0, .int .i64 er]) (by simp [results, Tryd.results58]; go_simp) rfl ?_
      simp only [rval_error, rerr_error]
      exact ⟨none, 0, 0, none, 0, 0, 0, rfl, OptR.none, AtR.err, HB5.out⟩
    | ok p =>
      obtain ⟨s2, rs2⟩ := p
      simp only [rval_ok, rerr_ok]
      have hqm2 : p2 ≤ m := by have := HP2.out.le; have := HLEN.out; omega
      have HQ2 := Lib.hid HP2.out.drop; clear HP2
      have hsl2 : s2.length ≤ 9223372036854775807 := by have := (getText_ok HT2.out).1; omega
      have hf2 : Fr (Rl ρ 1) (w1.setCell ⟨w.heap.size + 1, 1, none⟩ (.string (str s1))) ((w1.setCell ⟨w.heap.size + 1, 1, none⟩ (.string (str s1))).setCell ⟨w.heap.size + 1, 2, none⟩ (.string (str s2))) := HO1.out.frPut 2 _
      have HO2 : Hid (Bx (Rl ρ 1) ((w1.setCell ⟨w.heap.size + 1, 1, none⟩ (.string (str s1))).setCell ⟨w.heap.size + 1, 2, none⟩ (.string (str s2))) (w.heap.size + 1) [.int .u16 48, .string (str s1), .string (str s2), .slice none 0 0, .slice none 0 0]) := HO1.out.put 2 (.string (str s2)) (by show 2 < 5; decide)
      have HR2 := Lib.hid (HR1.out.stay hf2)
      have HB2 := Lib.hid (HB1.out.stay hf2)
      clear hf2
      obtain ⟨rc, hrc⟩ : ∃ rc, getN 2 (bs.drop p2) = rc := ⟨_, rfl⟩
      have HC := Lib.hid hrc; clear hrc
      go_wp2_with fail
      refine (rget_any (HS.out.after HB2.out.below) hqm2 (by decide) (by decide) rc HC.out).mono ?_
      rintro e w3 ⟨pc, rfl, hpc, rfl⟩
      have HPC := Lib.hid hpc; clear hpc
      rw [HQ2.out] at HC
      cases rc with
      | error er =>
        have hne : er ≠ 0 := by have := getN_err HC.out; omega
        simp only [rval_error, rerr_error]
        obtain rfl := HR.out.symm.trans (getO_48c HG.out HT1.out HT2.out HC.out)
        have r0 := HRB.out.c 0 _ rfl
        have r1 := HRB.out.c 1 _ rfl
        have r2 := HRB.out.c 2 _ rfl
        have r3 := HRB.out.c 3 _ rfl
        have r4 := HRB.out.c 4 _ rfl
        have f0 := HRB.out.fr 0
        have f1 := HRB.out.fr 1
        have f2 := HRB.out.fr 2
        have f3 := HRB.out.fr 3
        have f4 := HRB.out.fr 4
        have hrl := HR2.out.lt
        have HB5 := Lib.hid (HB2.out.stay (Fr.of_grown (grow5 _ w.heap.size (.int .u16 0) (.string ⟨#[]⟩) (.string ⟨#[]⟩) (.slice none 0 0) (.slice none 0 0)) (fun b e => by injection e with e; subst e; exact HR2.out.role) : Fr (Rl _ 2) _ _)).below
        go_wp2_with fail
        refine bodyPost_ret (v := .tuple #[.agg #[.int .u16 0, .string ⟨#[]⟩, .string ⟨#[]⟩, .slice none 0 0, .slice none 0 0], .int .i64 0, .int .i64 er]) (by simp [results, Tryd.results58]; go_simp) rfl ?_
        simp only [rval_error, rerr_error]
        exact ⟨none, 0, 0, none, 0, 0, 0, rfl, OptR.none, AtR.err, HB5.out⟩
      | ok p =>
        obtain ⟨M, rsc⟩ := p
        simp only [rval_ok, rerr_ok]
        have hMlt : M < 65536 := (getN_ok HC.out).2.2.2
        have hqmc : pc ≤ m := by have := HPC.out.le; have := HLEN.out; omega
        have HQL := Lib.hid HPC.out.drop; clear HPC
        have HMB := Lib.hid (show M ≤ 65536 by omega)
        go_wp2_with fail
        have SPL := hsl1
        have NML := hsl2

        have HGETO := Lib.hid (getO_48k HG.out HT1.out HT2.out HC.out : getO (n + 1) (bs.drop a) = finO n 48 (M) (s1, s2) (.ok rsc))
        go_loopw [11, 15] (fun u i wr => ∃ ρ k q A1 m1 d1 A2 m2 d2 l rest, k ≤ M ∧ u = .int .i64 (q : Nat) ∧ i = .int .i64 (k : Nat) ∧ Hid (l.length = k) ∧ q ≤ m ∧ Hid (bs.drop q = rest) ∧ Hid (Bx (Rl ρ 1) wr (w.heap.size + 1) [.int .u16 48, .string (str s1), .string (str s2), .slice A1 m1 d1, .slice A2 m2 d2]) ∧ Hid (Bx (Rl ρ 2) wr w.heap.size [.int .u16 0, .string (str []), .string (str []), .slice none 0 0, .slice none 0 0]) ∧ Hid (OwnS 9 1 strP (Rl ρ 3) wr A1 m1 d1 (nmsO 48 l)) ∧ Hid (OwnS 62 5 (optD (Rl ρ 5) wr 9223372036854775807 (n + 1)) (Rl ρ 4) wr A2 m2 d2 (l.map (·.2))) ∧ Hid (Bs ρ (fun _ => False) w wr) ∧ Hid (getsM (kidR (getO n) 48) k rsc = .ok (l, rest))) (fun _ i _ => M - (intOf i).toNat)
        case atStart => exact ⟨_, 0, pc, none, 0, 0, none, 0, 0, [], _, by omega, rfl, rfl, rfl, by omega, rfl, HO2, HR2, by (unfold nmsO; split <;> exact OwnS.nil), OwnS.nil, HB2, by rw [HQL.out]; rfl⟩
        case round =>
          obtain ⟨ρ, k, q, A1, m1, d1, A2, m2, d2, l, rest, hk, rfl, rfl, HLL, hqm2, HQ, HO, HRB, HN, HK, HB, HGS⟩ := hrel
          have hzr := HB.out.size
          have hol := HO.out.lt
          have HSr : Hid (Sl (fun b => S b ∧ b < w.heap.size) wr A m c bs) := HS.out.after HB.out.below
          have o0 := HO.out.c 0 _ rfl
          have o1 := HO.out.c 1 _ rfl
          have o2 := HO.out.c 2 _ rfl
          have o3 := HO.out.c 3 _ rfl
          have o4 := HO.out.c 4 _ rfl
          have g0 := HO.out.fr 0
          have g1 := HO.out.fr 1
          have g2 := HO.out.fr 2
          have g3 := HO.out.fr 3
          have g4 := HO.out.fr 4
          by_cases hlt : k < M
          · obtain ⟨rt, hrt⟩ : ∃ rt, getText (bs.drop q) = rt := ⟨_, rfl⟩
            have HT := Lib.hid hrt; clear hrt
            go_wp2_with fail
            refine (rgetText_any HSr.out hm hqm2 rt HT.out).mono ?_
            rintro e3 w3 ⟨q3, rfl, hq3, rfl⟩
            have HQ3 := Lib.hid hq3; clear hq3
            rw [HQ.out] at HT
            cases rt with
            | error er =>
              have hne : er ≠ 0 := getText_e HT.out
              simp only [rval_error, rerr_error]
              obtain rfl := HR.out.symm.trans (HGETO.out.trans (fin_err HGS.out hlt (kid4_48e HT.out)))
              have r0 := HRB.out.c 0 _ rfl
              have r1 := HRB.out.c 1 _ rfl
              have r2 := HRB.out.c 2 _ rfl
              have r3 := HRB.out.c 3 _ rfl
              have r4 := HRB.out.c 4 _ rfl
              have f0 := HRB.out.fr 0
              have f1 := HRB.out.fr 1
              have f2 := HRB.out.fr 2
              have f3 := HRB.out.fr 3
              have f4 := HRB.out.fr 4
              have hrl := HRB.out.lt
              have HB5 := Lib.hid (HB.out.stay (Fr.of_grown (grow5 wr w.heap.size (.int .u16 0) (.string ⟨#[]⟩) (.string ⟨#[]⟩) (.slice none 0 0) (.slice none 0 0)) (fun b e => by injection e with e; subst e; exact HRB.out.role) : Fr (Rl _ 2) _ _)).below
              go_wp2_with fail
              refine bodyPost_ret (v := .tuple #[.agg #[.int .u16 0, .string ⟨#[]⟩, .string ⟨#[]⟩, .slice none 0 0, .slice none 0 0], .int .i64 0, .int .i64 er]) (by simp [results, Tryd.results58]; go_simp) rfl ?_
              simp only [rval_error, rerr_error]
              exact ⟨none, 0, 0, none, 0, 0, 0, rfl, OptR.none, AtR.err, HB5.out⟩
            | ok p =>
              obtain ⟨s, rest1⟩ := p
              simp only [rval_ok, rerr_ok]
              have hq3m : q3 ≤ m := by have := HQ3.out.le; have := HLEN.out; omega
              have HQD3 := Lib.hid HQ3.out.drop; clear HQ3
              have hsl : s.length ≤ 9223372036854775807 := by have := (getText_ok HT.out).1; omega
              have hmn := HN.out.len (by decide)
              have hmn2 : m1 ≤ 65536 := by have := HLL.out; have e : (nmsO 48 l).length = l.length := (by unfold nmsO; rw [if_pos rfl, List.length_map]); have := HMB.out; omega
              clear hmn
              go_wp2_with (first | (at_builtin; refine wpList_appX rfl tyStr _ _ rfl (ρ := ρ) (r := 3) _ _ _ (nmsO 48 l) rfl (HN.out.after ((Below.refl _ _).alloc (Nat.le_refl _) _)) _ _ _ _ [s] rfl (arr_lit (P := strP) _ #[.string (str s)] s rfl ⟨rfl, by omega⟩ (by simp)) strP_one (fun _ _ _ h => h) (by omega) (by unfold maxLen; omega) ?_; intro A7 m7 d7 w7 ρ7 hx7 hown7 hf7; have HX7 := Lib.hid hx7; clear hx7; have HO7 := Lib.hid ((HO.out.after ((Below.refl _ _).alloc (Nat.le_refl _) _)).stepx hf7 HX7.out); have o37 := HO7.out.c 3 _ rfl; have f37 := HO7.out.fr 3; have HF7 := Lib.hid hf7; have HW7 := Lib.hid hown7; clear hf7 hown7))
              obtain ⟨W7, hW7⟩ : ∃ W7, W7 = w7.setCell ⟨w.heap.size + 1, 3, none⟩ (.slice A7 m7 d7) := ⟨_, rfl⟩
              rw [← hW7]
              have hf8 : Fr (Rl ρ7 1) w7 W7 := hW7 ▸ HO7.out.frPut 3 _
              have HO : Hid (Bx (Rl ρ7 1) W7 (w.heap.size + 1) [.int .u16 48, .string (str s1), .string (str s2), .slice A7 m7 d7, .slice A2 m2 d2]) := hW7 ▸ HO7.out.put 3 (.slice A7 m7 d7) (by show 3 < 5; decide)
              have HR8 := Lib.hid (((HRB.out.after ((Below.refl _ _).alloc (Nat.le_refl _) _)).stepx HF7.out HX7.out).stay hf8)
              have HB8 := Lib.hid (((HB.out.after ((Below.refl _ _).alloc (Nat.le_refl _) _)).stepx HF7.out HX7.out).stay hf8)
              have HN8 := Lib.hid (HW7.out.stay hf8)
              have HK8 := Lib.hid ((((HK.out.after ((Below.refl _ _).alloc (Nat.le_refl _) _)).deepA goesOpt ((Below.refl _ _).alloc (Nat.le_refl _) _)).stepx HF7.out HX7.out |>.deepx goesOpt HF7.out HX7.out |>.stay hf8).deepS goesOpt hf8)
              have HSW : Hid (Sl (fun b => S b ∧ b < w.heap.size) W7 A m c bs) := Lib.hid (HS.out.after HB8.out.below)
              clear HO7 HF7 HW7 hf8 o37 f37
              have HRB := HR8
              have HB := HB8
              have HN := HN8
              have HK := HK8
              clear HR8 HB8 HN8 HK8
              have o0 := HO.out.c 0 _ rfl
              have o1 := HO.out.c 1 _ rfl
              have o2 := HO.out.c 2 _ rfl
              have o3 := HO.out.c 3 _ rfl
              have o4 := HO.out.c 4 _ rfl
              have g0 := HO.out.fr 0
              have g1 := HO.out.fr 1
              have g2 := HO.out.fr 2
              have g3 := HO.out.fr 3
              have g4 := HO.out.fr 4
              have hzz : w7.heap.size = W7.heap.size := by rw [hW7]; simp
              rw [hzz]
              clear hzz hW7 hol hzr
              have hzr := HB.out.size
              have hol := HO.out.lt
              refine (ih (deep := deep + 1) (a := q3) (HSW.out.after (by repeat (first | exact Below.refl _ _ | assumption | refine Below.drew ?_ | refine below_drewN ?_ _ | refine Below.alloc ?_ (by first | (simp; done) | omega | (simp; omega)) _ | refine Below.setCell ?_ (by first | (simp; done) | omega | (simp; omega)) _))) hm (by omega) (by omega) (by omega) _ rfl).mono ?_
              rintro e2 w2 ⟨B1, p1, u1, B2, p2, u2, q2, rfl, hx2, hq2, hb2⟩
              have hbK : Below W7.heap.size W7 w2 := Below.trans (by repeat (first | exact Below.refl _ _ | assumption | refine Below.drew ?_ | refine below_drewN ?_ _ | refine Below.alloc ?_ (by first | (simp; done) | omega | (simp; omega)) _ | refine Below.setCell ?_ (by first | (simp; done) | omega | (simp; omega)) _)) (hb2.mono (by simp))
              have hzk := hb2.size
              simp at hzk
              have HKB : Hid (Bx (Rl (xt (xt ρ7 W7.heap.size 6) (W7.heap.size + 1) 5) 6) w2 W7.heap.size [.int .u16 0, .string (str []), .string (str []), .slice none 0 0, .slice none 0 0]) := (Bx.alloc W7 #[.int .u16 0, .string (str []), .string (str []), .slice none 0 0, .slice none 0 0] _ two_at).after hb2
              have HO2 := Lib.hid (HO.out.two hbK 6 5); clear HO
              have HR2 := Lib.hid (HRB.out.two hbK 6 5); clear HRB
              have HN2 := Lib.hid (HN.out.two hbK 6 5); clear HN
              have HK2 := Lib.hid ((HK.out.two hbK 6 5).deep2 goesOpt hbK 6 5); clear HK
              have HB2 := Lib.hid (HB.out.two hbK 6 5); clear HB
              have HX2 : Hid (OptR (Rl (xt (xt ρ7 W7.heap.size 6) (W7.heap.size + 1) 5) 5) w2 9223372036854775807 n B1 p1 u1 B2 p2 u2 _) := hx2.mono fun b hb _ => two_ge (by simpa using hb)
              have HQ2 := Lib.hid hq2
              clear hx2 hq2 hbK hb2
              obtain ⟨ρk, hρk⟩ : ∃ ρk, ρk = xt (xt ρ7 W7.heap.size 6) (W7.heap.size + 1) 5 := ⟨_, rfl⟩
              rw [← hρk] at HKB HO2 HR2 HN2 HK2 HB2 HX2
              clear hρk
              have k0 := HKB.out.c 0 _ rfl
              have k1 := HKB.out.c 1 _ rfl
              have k2 := HKB.out.c 2 _ rfl
              have k3 := HKB.out.c 3 _ rfl
              have k4 := HKB.out.c 4 _ rfl
              have h0 := HKB.out.fr 0
              have h1 := HKB.out.fr 1
              have h2 := HKB.out.fr 2
              have h3 := HKB.out.fr 3
              have h4 := HKB.out.fr 4
              clear o0 o1 o2 o3 o4 g0 g1 g2 g3 g4
              have hkl := HKB.out.lt
              have hol2 := HO2.out.lt
              obtain ⟨rx, hrx⟩ : ∃ rx, getO n (bs.drop q3) = rx := ⟨_, rfl⟩
              have HRX := Lib.hid hrx
              rw [hrx] at HX2 HQ2 ⊢
              clear hrx
              rw [HQD3.out] at HRX
              cases rx with
              | error er =>
                have hne : er ≠ 0 := getO_ne HRX.out
                simp only [rval_error, rerr_error]
                have hfk : Fr (Rl ρk 6) w2 _ := Fr.of_grown (grow5 w2 W7.heap.size (.int .u16 (Opt.none.id : Int)) (.string (str Opt.none.space)) (.string (str Opt.none.name)) (.slice B1 p1 u1) (.slice B2 p2 u2)) (fun b e => by injection e with e; subst e; exact HKB.out.role)
                have HR3 := Lib.hid (HR2.out.stay hfk)
                have HB3 := Lib.hid (HB2.out.stay hfk)
                clear hfk
                obtain rfl := HR.out.symm.trans (HGETO.out.trans (fin_err HGS.out hlt (kid4_48 HT.out HRX.out)))
                have r0 := HR2.out.c 0 _ rfl
                have r1 := HR2.out.c 1 _ rfl
                have r2 := HR2.out.c 2 _ rfl
                have r3 := HR2.out.c 3 _ rfl
                have r4 := HR2.out.c 4 _ rfl
                have f0 := HR2.out.fr 0
                have f1 := HR2.out.fr 1
                have f2 := HR2.out.fr 2
                have f3 := HR2.out.fr 3
                have f4 := HR2.out.fr 4
                have hrl := HR3.out.lt
                have HB5 := Lib.hid (HB3.out.stay (Fr.of_grown (grow5 _ w.heap.size (.int .u16 0) (.string ⟨#[]⟩) (.string ⟨#[]⟩) (.slice none 0 0) (.slice none 0 0)) (fun b e => by injection e with e; subst e; exact HR3.out.role) : Fr (Rl _ 2) _ _)).below
                go_wp2_with fail
                refine bodyPost_ret (v := .tuple #[.agg #[.int .u16 0, .string ⟨#[]⟩, .string ⟨#[]⟩, .slice none 0 0, .slice none 0 0], .int .i64 0, .int .i64 er]) (by simp [results, Tryd.results58]; go_simp) rfl ?_
                simp only [rval_error, rerr_error]
                exact ⟨none, 0, 0, none, 0, 0, 0, rfl, OptR.none, AtR.err, HB5.out⟩
              | ok p =>
                obtain ⟨ox, rest2⟩ := p
                simp only [rval_ok, rerr_ok] at HX2 ⊢
                have o0 := HO2.out.c 0 _ rfl
                have o1 := HO2.out.c 1 _ rfl
                have o2 := HO2.out.c 2 _ rfl
                have o3 := HO2.out.c 3 _ rfl
                have o4 := HO2.out.c 4 _ rfl
                have g0 := HO2.out.fr 0
                have g1 := HO2.out.fr 1
                have g2 := HO2.out.fr 2
                have g3 := HO2.out.fr 3
                have g4 := HO2.out.fr 4
                have hq2m : q2 ≤ m := by have := HQ2.out.le; have := HLEN.out; omega
                have HQD2 := Lib.hid HQ2.out.drop; clear HQ2
                have hfk : Fr (Rl ρk 6) w2 _ := Fr.of_grown (grow5 w2 W7.heap.size (.int .u16 (ox.id : Int)) (.string (str ox.space)) (.string (str ox.name)) (.slice B1 p1 u1) (.slice B2 p2 u2)) (fun b e => by injection e with e; subst e; exact HKB.out.role)
                have HO3 := Lib.hid (HO2.out.stay hfk); clear HO2
                have HR3 := Lib.hid (HR2.out.stay hfk); clear HR2
                have HN3 := Lib.hid (HN2.out.stay hfk); clear HN2
                have HK3 := Lib.hid (HK2.out.stay hfk); clear HK2
                have HB3 := Lib.hid (HB2.out.stay hfk); clear HB2
                have HFK := Lib.hid hfk; clear hfk
                have hml := HK3.out.len (by decide)
                have hmk : m2 ≤ 65536 := by have := HLL.out; rw [List.length_map] at hml; have := HMB.out; omega
                clear hml
                go_wp2_with (first | (at_builtin; refine wpList_appX rfl tyOpt _ _ rfl (ρ := ρk) (r := 4) _ _ _ (l.map (·.2)) rfl (HK3.out.after ((Below.refl _ _).alloc (Nat.le_refl _) _)) _ _ _ _ [ox] rfl (arr_lit (P := optD (Rl ρk 5) w2 9223372036854775807 (n + 1)) _ #[.int .u16 (ox.id : Int), .string (str ox.space), .string (str ox.name), .slice B1 p1 u1, .slice B2 p2 u2] ox rfl HX2.out.to (by simp)) (fun _ _ h => h.one) (fun _ _ _ h => h) (by omega) (by unfold maxLen; omega) ?_; intro A4 m4 d4 w5 ρ5 hx5 hown5 hf45; have HX5 := Lib.hid hx5; clear hx5; have HO5 := Lib.hid ((HO3.out.after ((Below.refl _ _).alloc (Nat.le_refl _) _)).stepx hf45 HX5.out); have o45 := HO5.out.c 4 _ rfl; have f45 := HO5.out.fr 4))
                have hf56 : Fr (Rl ρ5 1) w5 (w5.setCell ⟨w.heap.size + 1, 4, none⟩ (.slice A4 m4 d4)) := HO5.out.frPut 4 _
                have HO6 : Hid (Bx (Rl ρ5 1) (w5.setCell ⟨w.heap.size + 1, 4, none⟩ (.slice A4 m4 d4)) (w.heap.size + 1) [.int .u16 48, .string (str s1), .string (str s2), .slice A7 m7 d7, .slice A4 m4 d4]) := HO5.out.put 4 (.slice A4 m4 d4) (by show 4 < 5; decide)
                have HR6 := Lib.hid (((HR3.out.after ((Below.refl _ _).alloc (Nat.le_refl _) _)).stepx hf45 HX5.out).stay hf56)
                have HN6 := Lib.hid (((HN3.out.after ((Below.refl _ _).alloc (Nat.le_refl _) _)).stepx hf45 HX5.out).stay hf56)
                have HB6 := Lib.hid (((HB3.out.after ((Below.refl _ _).alloc (Nat.le_refl _) _)).stepx hf45 HX5.out).stay hf56)
                have HK6 := Lib.hid (((((hown5.deepS goesOpt HFK.out).deepA goesOpt ((Below.refl _ _).alloc (Nat.le_refl _) _)).deepx goesOpt hf45 HX5.out).stay hf56).deepS goesOpt hf56)
                have HGS2 : Hid (getsM (kidR (getO n) 48) (k + 1) _ = .ok (l ++ [(s, ox)], rest2)) := getsM_snoc HGS.out (kid4_48 HT.out HRX.out)
                first
                  | refine ⟨⟨_, _, _, _, _, ⟨ρ5, k + 1, by omega, q2, rfl, by go_num, A7, m7, d7, A4, m4, d4, l ++ [(s, ox)], (by have := HLL.out; show (l ++ [_]).length = k + 1; rw [List.length_append, this]; rfl), hq2m, rest2, HQD2, HO6, HR6, HN6.out.as (nms_snoc_48 l (s, ox)).symm, HK6.out.as (by simp), HB6, HGS2⟩, rfl, rfl, rfl, rfl, rfl⟩, by simp [intOf]; omega⟩
                  | refine ⟨⟨ρ5, k + 1, q2, A7, m7, d7, A4, m4, d4, l ++ [(s, ox)], rest2, by omega, rfl, by go_num, (by have := HLL.out; show (l ++ [_]).length = k + 1; rw [List.length_append, this]; rfl), hq2m, HQD2, HO6, HR6, HN6.out.as (nms_snoc_48 l (s, ox)).symm, HK6.out.as (by simp), HB6, HGS2⟩, by simp [intOf]; omega⟩
          · obtain rfl : k = M := by omega
            obtain rfl := HR.out.symm.trans (HGETO.out.trans (fin_ok HGS.out))
            have r0 := HRB.out.c 0 _ rfl
            have r1 := HRB.out.c 1 _ rfl
            have r2 := HRB.out.c 2 _ rfl
            have r3 := HRB.out.c 3 _ rfl
            have r4 := HRB.out.c 4 _ rfl
            have f0 := HRB.out.fr 0
            have f1 := HRB.out.fr 1
            have f2 := HRB.out.fr 2
            have f3 := HRB.out.fr 3
            have f4 := HRB.out.fr 4
            have hrl := HRB.out.lt
            have hf5 : Fr (Rl ρ 2) wr _ := Fr.of_grown (grow5 wr w.heap.size (.int .u16 48) (.string (str s1)) (.string (str s2)) (.slice A1 m1 d1) (.slice A2 m2 d2)) (fun b e => by injection e with e; subst e; exact HRB.out.role)
            have HB5 := Lib.hid (HB.out.stay hf5).below
            have HA5 := Lib.hid ((HN.out.stay hf5).arr (by decide))
            have HK5 := Lib.hid (((HK.out.stay hf5).deepS goesOpt hf5).arr (by decide))
            have HGE := Lib.hid (fun b r (h1 : ρ b = r) (h2 : r ≠ 0) => HB.out.ge h1 h2)
            clear hf5
            go_wp2_with fail
            refine bodyPost_ret (v := .tuple #[.agg #[.int .u16 48, .string (str s1), .string (str s2), .slice A1 m1 d1, .slice A2 m2 d2], .int .i64 (q : Nat), .int .i64 0]) (by simp [results, Tryd.results58]; go_simp) rfl ?_
            simp only [rval_ok, rerr_ok]
            exact ⟨A1, m1, d1, A2, m2, d2, q, rfl, ⟨hid, SPL, NML, HA5.out.mono fun b hb _ => HGE.out b 3 hb (by decide), (HK5.out.mono fun b hb _ => HGE.out b 4 hb (by decide)).imp fun x _ v hp => hp.mono fun b hb _ => HGE.out b 5 hb (by decide)⟩, AtR.ok (by have := HLEN.out; omega) HQ.out, HB5.out⟩
end Go.Proofs.Sb

/- signalboxref04.Get: what it does. Conditions: lengths up to 2^47. (written by gen_ref4get.py) -/
namespace Go.Proofs.Sb
open Go.RowKit _root_.Sb

theorem rget4_any : ∀ n : Nat, Get4 n := by
  intro n
  induction n with
  | zero =>
    intro S A m c a bs w deep hs hm ha hdn _ r hr
    exact rget4_deep hs hm ha (by omega) r hr
  | succ n ih =>
    intro S A m c a bs w deep hs hm ha hdn hd1 r hr
    have hdn2 : deep + (n : Int) = 20 := by omega
    cases hg : getN 2 (bs.drop a) with
    | error e => exact rget4_short hg hs hm ha hdn2 hd1 r hr
    | ok p =>
      obtain ⟨id, rs⟩ := p
      by_cases hkn : kn id = -2
      · exact rget4_bad hg hkn hs hm ha hdn2 hd1 r hr
      by_cases hi0 : id = 0
      · subst hi0; exact rget4_0 hg hs hm ha hdn2 hd1 r hr
      by_cases hk0 : 0 ≤ kn id
      · exact rget4_else ih hg hk0 hi0 hs hm ha hdn2 hd1 r hr
      have hkr := kn_range id
      rcases kn_many (by omega : kn id = -1) with h | h <;> subst h
      · exact rget4_48 ih hg hs hm ha hdn2 hd1 r hr
      · exact rget4_49 ih hg hs hm ha hdn2 hd1 r hr

end Go.Proofs.Sb
