/- Walk over signalboxref04.Get: a name of its own. Conditions: lengths up to 2^47. (written by gen_ref4get.py) -/
import Derived.Test.YtpgcadicamnpkaaDoorOptua
set_option linter.unusedVariables false
set_option linter.unusedSimpArgs false
namespace Sb
theorem getO_0e {n : Nat} {cur rest : B} {e : Int} (h : getN 2 cur = .ok (0, rest)) (ht : getText rest = .error e) : getO (n + 1) cur = .error e := by
  rw [getO_0 h, textR_err ht]; rfl
theorem getO_0k {n : Nat} {cur rest s r1 : B} (h : getN 2 cur = .ok (0, rest)) (ht : getText rest = .ok (s, r1)) : getO (n + 1) cur = finO n 0 0 ([], s) (.ok r1) := by
  rw [getO_0 h, textR_ok ht, textV_ok ht]; rfl
end Sb
namespace Go.Proofs.Sb
open Go.RowKit _root_.Sb

set_option maxHeartbeats 8000000 in
set_option maxRecDepth 100000 in
theorem rget4_0 {n : Nat} {S : Nat → Prop} {A : Option Addr} {m c a : Nat} {bs : B} {w : World} {deep : Int} {rs : B} (hg : getN 2 (bs.drop a) = .ok (0, rs)) (hs : Sl S w A m c bs) (hm : m ≤ 140737488355328) (ha : a ≤ m) (hdn : deep + n = 20) (hd1 : 1 ≤ deep) (r : Res Opt) (hr : getO (n + 1) (bs.drop a) = r) :
    Calls Tryd.prog 17 #[.slice A m c, .int .i64 (a : Int), .int .i64 deep] w fun e w' => ∃ A1 n1 c1 A2 n2 c2, ∃ q : Nat, e = .returned (.tuple #[optV (rval Opt.none r) A1 n1 c1 A2 n2 c2, .int .i64 (q : Int), .int .i64 (rerr r)]) ∧ OptR (fun b => w.heap.size ≤ b) w' 9223372036854775807 (n + 1) A1 n1 c1 A2 n2 c2 (rval Opt.none r) ∧ AtR bs q r ∧ Below w.heap.size w w' := by
  have HLEN := Lib.hid hs.len
  have HS := Lib.hid hs.lt; clear hs
  have HR := Lib.hid hr; clear hr
  go_enter Tryd.func17, Tryd.ntmps17
  have HG := Lib.hid hg; clear hg
  have hid : 0 < 65536 := (getN_ok HG.out).2.2.2
  go_wp2_with fail
  refine (rget_any (HS.out.after (by repeat (first | exact Below.refl _ _ | assumption | refine Below.drew ?_ | refine below_drewN ?_ _ | refine Below.alloc ?_ (by first | (simp; done) | omega | (simp; omega)) _ | refine Below.setCell ?_ (by first | (simp; done) | omega | (simp; omega)) _))) ha (by decide) (by decide) _ HG.out).mono ?_
  rintro e w0 ⟨q0, rfl, hq0, rfl⟩
  have hq := hq0.le
  have HQD := Lib.hid hq0.drop
  clear hq0
  simp only [rval_ok, rerr_ok]
  have hqm : q0 ≤ m := by have := HLEN.out; omega
  clear hq
  go_wp2_with fail
  refine (many_any (id := 0) hid _).mono ?_
  rintro e w1 ⟨rfl, hb1⟩
  have hz1 := hb1.size
  simp at hz1
  generalize hρ : xt (xt (xt (fun _ => 0) w.heap.size 2) (w.heap.size + 1) 1) (w.heap.size + 2) 5 = ρ
  have eR : ρ w.heap.size = 2 := by rw [← hρ, xt_lt (by omega), xt_lt (by omega), xt_ge (by omega)]
  have eO : ρ (w.heap.size + 1) = 1 := by rw [← hρ, xt_lt (by omega), xt_ge (by omega)]
  have hbw1 : Below w.heap.size w w1 := Below.trans (by repeat (first | exact Below.refl _ _ | assumption | refine Below.drew ?_ | refine below_drewN ?_ _ | refine Below.alloc ?_ (by first | (simp; done) | omega | (simp; omega)) _ | refine Below.setCell ?_ (by first | (simp; done) | omega | (simp; omega)) _)) (hb1.mono (by simp; omega))
  have HB := Lib.hid (⟨fun b hb _ => by rw [← hρ, xt_lt (by omega), xt_lt (by omega), xt_lt (by omega)], .of_below hbw1⟩ : Bs ρ (fun _ => False) w w1)
  have HO : Hid (Bx (Rl ρ 1) w1 (w.heap.size + 1) [.int .u16 0, .string (str []), .string (str []), .slice none 0 0, .slice none 0 0]) := (Bx.alloc (w.alloc _) #[.int .u16 0, .string (str []), .string (str []), .slice none 0 0, .slice none 0 0] _ (by simpa using eO) (by simp)).after hb1
  have HRB : Hid (Bx (Rl ρ 2) w1 w.heap.size [.int .u16 0, .string (str []), .string (str []), .slice none 0 0, .slice none 0 0]) := ((Bx.alloc w #[.int .u16 0, .string (str []), .string (str []), .slice none 0 0, .slice none 0 0] _ eR).after (Below.alloc (Below.refl _ _) (Nat.le_refl _) _)).after hb1
  have HSw : Hid (Sl (fun b => S b ∧ b < w.heap.size) w1 A m c bs) := HS.out.after hbw1
  clear hρ eR eO hb1 hbw1
  rw [show kn 0 = 0 by decide]
  have o0 := HO.out.c 0 _ rfl
  have o1 := HO.out.c 1 _ rfl
  have o2 := HO.out.c 2 _ rfl
  have o3 := HO.out.c 3 _ rfl
  have o4 := HO.out.c 4 _ rfl
  have g0 := HO.out.fr 0
  have g1 := HO.out.fr 1
  have g2 := HO.out.fr 2
  have g3 := HO.out.fr 3
  have g4 := HO.out.fr 4
  obtain ⟨rt1, hrt1⟩ : ∃ rt, getText (bs.drop q0) = rt := ⟨_, rfl⟩
  have HT1 := Lib.hid hrt1; clear hrt1
  go_wp2_with fail
  refine (rgetText_any (HS.out.after HB.out.below) hm hqm rt1 HT1.out).mono ?_
  rintro e w3 ⟨p1, rfl, hp1, rfl⟩
  have HP1 := Lib.hid hp1; clear hp1
  rw [HQD.out] at HT1
  cases rt1 with
  | error er =>
    have hne : er ≠ 0 := getText_e HT1.out
    simp only [rval_error, rerr_error]
    have hf1 : Fr (Rl ρ 1) w1 (w1.setCell ⟨w.heap.size + 1, 2, none⟩ (.string (str []))) := HO.out.frPut 2 _
    have HRx := Lib.hid (HRB.out.stay hf1)
    have HBx := Lib.hid (HB.out.stay hf1)
    clear hf1
    obtain rfl := HR.out.symm.trans (getO_0e HG.out HT1.out)
    have r0 := HRB.out.c 0 _ rfl
    have r1 := HRB.out.c 1 _ rfl
    have r2 := HRB.out.c 2 _ rfl
    have r3 := HRB.out.c 3 _ rfl
    have r4 := HRB.out.c 4 _ rfl
    have f0 := HRB.out.fr 0
    have f1 := HRB.out.fr 1
    have f2 := HRB.out.fr 2
    have f3 := HRB.out.fr 3
    have f4 := HRB.out.fr 4
    have hrl := HRx.out.lt
    have HB5 := Lib.hid (HBx.out.stay (Fr.of_grown (grow5 _ w.heap.size (.int .u16 0) (.string ⟨#[]⟩) (.string ⟨#[]⟩) (.slice none 0 0) (.slice none 0 0)) (fun b e => by injection e with e; subst e; exact HRx.out.role) : Fr (Rl _ 2) _ _)).below
    go_wp2_with fail
    refine bodyPost_ret (v := .tuple #[.agg #[.int .u16 0, .string ⟨#[]⟩, .string ⟨#[]⟩, .slice none 0 0, .slice none 0 0], .int .i64 0, .int .i64 er]) (by simp [results, Tryd.results17]; go_simp) rfl ?_
    simp only [rval_error, rerr_error]
    exact ⟨none, 0, 0, none, 0, 0, 0, rfl, OptR.none, AtR.err, HB5.out⟩
  | ok p =>
    obtain ⟨s1, rs1⟩ := p
    simp only [rval_ok, rerr_ok]
    have hqm1 : p1 ≤ m := by have := HP1.out.le; have := HLEN.out; omega
    have HQ1 := Lib.hid HP1.out.drop; clear HP1
    have hsl1 : s1.length ≤ 9223372036854775807 := by have := (getText_ok HT1.out).1; omega
    have hf1 : Fr (Rl ρ 1) w1 (w1.setCell ⟨w.heap.size + 1, 2, none⟩ (.string (str s1))) := HO.out.frPut 2 _
    have HO1 : Hid (Bx (Rl ρ 1) (w1.setCell ⟨w.heap.size + 1, 2, none⟩ (.string (str s1))) (w.heap.size + 1) [.int .u16 0, .string (str []), .string (str s1), .slice none 0 0, .slice none 0 0]) := HO.out.put 2 (.string (str s1)) (by show 2 < 5; decide)
    have HR1 := Lib.hid (HRB.out.stay hf1)
    have HB1 := Lib.hid (HB.out.stay hf1)
    clear hf1
    have SPL : ([] : B).length ≤ 9223372036854775807 := Nat.zero_le _
    have NML := hsl1
    have HQL := HQ1
    have HMB := Lib.hid (show 0 ≤ 65536 by omega)
    go_wp2_with fail

    have HGETO := Lib.hid (getO_0k HG.out HT1.out : getO (n + 1) (bs.drop a) = finO n 0 (0) ([], s1) (.ok rs1))
    go_loopw [11, 15] (fun u i wr => ∃ ρ k q A1 m1 d1 A2 m2 d2 l rest, k ≤ 0 ∧ u = .int .i64 (q : Nat) ∧ i = .int .i64 (k : Nat) ∧ Hid (l.length = k) ∧ q ≤ m ∧ Hid (bs.drop q = rest) ∧ Hid (Bx (Rl ρ 1) wr (w.heap.size + 1) [.int .u16 0, .string (str []), .string (str s1), .slice A1 m1 d1, .slice A2 m2 d2]) ∧ Hid (Bx (Rl ρ 2) wr w.heap.size [.int .u16 0, .string (str []), .string (str []), .slice none 0 0, .slice none 0 0]) ∧ Hid (OwnS 9 1 strP (Rl ρ 3) wr A1 m1 d1 (nmsO 0 l)) ∧ Hid (OwnS 26 5 (optD (Rl ρ 5) wr 9223372036854775807 (n + 1)) (Rl ρ 4) wr A2 m2 d2 (l.map (·.2))) ∧ Hid (Bs ρ (fun _ => False) w wr) ∧ Hid (getsM (kidR (getO n) 0) k rs1 = .ok (l, rest))) (fun _ i _ => 0 - (intOf i).toNat)
    case atStart => exact ⟨_, 0, p1, none, 0, 0, none, 0, 0, [], _, by omega, rfl, rfl, rfl, by omega, rfl, HO1, HR1, by (unfold nmsO; split <;> exact OwnS.nil), OwnS.nil, HB1, by rw [HQL.out]; rfl⟩
    case round =>
      obtain ⟨ρ, k, q, A1, m1, d1, A2, m2, d2, l, rest, hk, rfl, rfl, HLL, hqm2, HQ, HO, HRB, HN, HK, HB, HGS⟩ := hrel
      have hzr := HB.out.size
      have hol := HO.out.lt
      have HSr : Hid (Sl (fun b => S b ∧ b < w.heap.size) wr A m c bs) := HS.out.after HB.out.below
      have o0 := HO.out.c 0 _ rfl
      have o1 := HO.out.c 1 _ rfl
      have o2 := HO.out.c 2 _ rfl
      have o3 := HO.out.c 3 _ rfl
      have o4 := HO.out.c 4 _ rfl
      have g0 := HO.out.fr 0
      have g1 := HO.out.fr 1
      have g2 := HO.out.fr 2
      have g3 := HO.out.fr 3
      have g4 := HO.out.fr 4
      obtain rfl : k = 0 := by omega
      obtain rfl := HR.out.symm.trans (HGETO.out.trans (fin_ok HGS.out))
      have r0 := HRB.out.c 0 _ rfl
      have r1 := HRB.out.c 1 _ rfl
      have r2 := HRB.out.c 2 _ rfl
      have r3 := HRB.out.c 3 _ rfl
      have r4 := HRB.out.c 4 _ rfl
      have f0 := HRB.out.fr 0
      have f1 := HRB.out.fr 1
      have f2 := HRB.out.fr 2
      have f3 := HRB.out.fr 3
      have f4 := HRB.out.fr 4
      have hrl := HRB.out.lt
      have hf5 : Fr (Rl ρ 2) wr _ := Fr.of_grown (grow5 wr w.heap.size (.int .u16 0) (.string (str [])) (.string (str s1)) (.slice A1 m1 d1) (.slice A2 m2 d2)) (fun b e => by injection e with e; subst e; exact HRB.out.role)
      have HB5 := Lib.hid (HB.out.stay hf5).below
      have HA5 := Lib.hid ((HN.out.stay hf5).arr (by decide))
      have HK5 := Lib.hid (((HK.out.stay hf5).deepS goesOpt hf5).arr (by decide))
      have HGE := Lib.hid (fun b r (h1 : ρ b = r) (h2 : r ≠ 0) => HB.out.ge h1 h2)
      clear hf5
      go_wp2_with fail
      refine bodyPost_ret (v := .tuple #[.agg #[.int .u16 0, .string (str []), .string (str s1), .slice A1 m1 d1, .slice A2 m2 d2], .int .i64 (q : Nat), .int .i64 0]) (by simp [results, Tryd.results17]; go_simp) rfl ?_
      simp only [rval_ok, rerr_ok]
      exact ⟨A1, m1, d1, A2, m2, d2, q, rfl, ⟨hid, SPL, NML, HA5.out.mono fun b hb _ => HGE.out b 3 hb (by decide), (HK5.out.mono fun b hb _ => HGE.out b 4 hb (by decide)).imp fun x _ v hp => hp.mono fun b hb _ => HGE.out b 5 hb (by decide)⟩, AtR.ok (by have := HLEN.out; omega) HQ.out, HB5.out⟩
end Go.Proofs.Sb
