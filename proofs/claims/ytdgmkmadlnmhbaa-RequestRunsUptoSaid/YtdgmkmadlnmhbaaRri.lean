/- Walks over signalboxref08.getValues, getShort. Conditions: lengths up to 2^47. -/
import Derived.Test.YtdgmkmadlnmhbaaRrg
import Derived.Test.YtdgmkmadlnmhbaaRefd
set_option linter.unusedVariables false
set_option linter.unusedSimpArgs false
namespace Sb
theorem gv_ok {nm : Bool} {b b0 : B} {n : Nat} (h : getN 2 b = .ok (n, b0)) : getVals nm b = getsM (entR nm) n b0 := bindR_ok h
theorem gv_er {nm : Bool} {b : B} {e : Int} (h : getN 2 b = .error e) : getVals nm b = .error e := bindR_err h
/-- how far a row of values is got: the values so far, what is left; or the error -/
def GotV (nm : Bool) (N : Nat) (b0 : B) (k : Nat) (l : List (B × Val)) (st : Wr) : Prop :=
  (∀ rest, st = .ok rest → getsM (entR nm) k b0 = .ok (l, rest)) ∧ (∀ e, st = .error e → getsM (entR nm) N b0 = .error e)
theorem GotV.zero (nm : Bool) (N : Nat) (b0 : B) : GotV nm N b0 0 [] (.ok b0) := ⟨fun rest h => by injection h with h; subst h; rfl, fun e h => by cases h⟩
theorem GotV.step {nm : Bool} {N k : Nat} {b0 rest r2 : B} {l : List (B × Val)} {x : B × Val} (h : GotV nm N b0 k l (.ok rest)) (hx : entR nm rest = .ok (x, r2)) : GotV nm N b0 (k + 1) (l ++ [x]) (.ok r2) :=
  ⟨fun r e => by injection e with e; subst e; exact getsM_snoc (h.1 rest rfl) hx, fun e h => by cases h⟩
theorem GotV.stop {nm : Bool} {N k : Nat} {b0 rest : B} {l l2 : List (B × Val)} {e : Int} (h : GotV nm N b0 k l (.ok rest)) (hk : k < N) (hx : entR nm rest = .error e) : GotV nm N b0 k l2 (.error e) :=
  ⟨fun r h => (by cases h), fun e' h2 => by injection h2 with h2; subst h2; exact getsM_stop hk (h.1 rest rfl) hx⟩
theorem ent_name {rest r1 : B} {x : B} (h : getText rest = .ok (x, r1)) : entR true rest = bindR (getValue r1) fun v r => .ok ((x, v), r) := by
  unfold entR
  rw [eqBoth]
  exact bindR_ok h
theorem ent_name_er {rest : B} {e : Int} (h : getText rest = .error e) : entR true rest = .error e := by
  unfold entR
  rw [eqBoth]
  exact bindR_err h
theorem ent_noname (rest : B) : entR false rest = bindR (getValue rest) fun v r => .ok (([], v), r) := by
  unfold entR
  rw [eqBoth]
  exact bindR_ok (x := []) (b := rest) rfl
theorem nms_snoc (nm : Bool) (l : List (B × Val)) (x : B × Val) : nmsV nm (l ++ [x]) = if nm then nmsV nm l ++ [x.1] else [] := by
  cases nm <;> simp [nmsV]
theorem gvs_ne {b : B} {e : Int} (h : getValue b = .error e) : e ≠ 0 := by
  unfold getValue at h
  cases hg : getNum b with
  | error e' => rw [hg] at h; injection h with h; have := getNum_err hg; omega
  | ok p =>
    obtain ⟨n, q⟩ := p
    rw [hg] at h
    simp only at h
    split at h
    · cases h
    · split at h
      · cases h
      · split at h
        · injection h with h; omega
        · cases hq : takeN n.toNat q with
          | error e2 => rw [hq] at h; injection h with h; have := takeN_err hq; omega
          | ok p2 => rw [hq] at h; cases h
theorem getsM_ne {α : Type} {f : B → Res α} (hf : ∀ b e, f b = .error e → e ≠ 0) : ∀ (n : Nat) (b : B) (e : Int), getsM f n b = .error e → e ≠ 0
  | 0, _, _, h => by cases h
  | n + 1, b, e, h => by
    rw [getsM] at h
    cases h1 : f b with
    | error e2 => rw [h1] at h; injection h with h; rw [← h]; exact hf b e2 h1
    | ok p =>
      rw [h1] at h
      simp only at h
      cases h2 : getsM f n p.2 with
      | error e2 => rw [h2] at h; injection h with h; rw [← h]; exact getsM_ne hf n _ _ h2
      | ok p2 => rw [h2] at h; cases h
theorem ent_ne (nm : Bool) (b : B) (e : Int) (h : entR nm b = .error e) : e ≠ 0 := by
  cases nm with
  | false =>
    rw [ent_noname] at h
    cases hv : getValue b with
    | error e2 => rw [hv] at h; injection h with h; rw [← h]; exact gvs_ne hv
    | ok p => rw [hv] at h; cases h
  | true =>
    cases hx : getText b with
    | error e2 => rw [ent_name_er hx] at h; injection h with h; rw [← h]; exact gt_ne hx
    | ok p =>
      rw [ent_name (x := p.1) (r1 := p.2) hx] at h
      cases hv : getValue p.2 with
      | error e2 => rw [hv] at h; injection h with h; rw [← h]; exact gvs_ne hv
      | ok p => rw [hv] at h; cases h
theorem gsV_ne {nm : Bool} {N : Nat} {b : B} {e : Int} (h : getsM (entR nm) N b = .error e) : e ≠ 0 := getsM_ne (ent_ne nm) N b e h
theorem GotV.fin {nm : Bool} {N k : Nat} {b0 rest cur : B} {l : List (B × Val)} {s : B} {rv : Res Val} (h : GotV nm N b0 k l (.ok rest)) (hk : k < N) (hent : entR nm rest = bindR (getValue cur) fun v r => .ok ((s, v), r)) (hrv : getValue cur = rv) :
    ∃ st, werr st = rerr rv ∧ GotV nm N b0 (k + 1) (l ++ [(s, rval Val.none rv)]) st ∧ ∀ rest', st = .ok rest' → rv = .ok (rval Val.none rv, rest') := by
  rw [hrv] at hent
  cases rv with
  | error e => exact ⟨.error e, rfl, ⟨fun r h => (by cases h), fun e2 h2 => by injection h2 with h2; subst h2; exact getsM_stop hk (h.1 rest rfl) hent⟩, fun r h => by cases h⟩
  | ok p => exact ⟨.ok p.2, rfl, h.step hent, fun r h => by injection h with h; rw [← h]; rfl⟩
end Sb

/- Walk over signalboxref08.getValues. Conditions: lengths up to 2^47. (written by gen_rqref4.py) -/
namespace Go.Proofs.Sb
open Go.RowKit _root_.Sb
theorem results_tmp4 {P : Program} {w : World} {fn : Func} {t u v x : Tmp} (h : fn.results = #[.tmp t, .tmp u, .tmp v, .tmp x]) (tmps : Array Value) :
    (results fn tmps).run P w = .ok (.tuple #[tmps.getD t undef, tmps.getD u undef, tmps.getD v undef, tmps.getD x undef]) w := by
  simp [results, h, Sem.run_bind, Result.andThen]
set_option maxHeartbeats 8000000 in
set_option maxRecDepth 100000 in
theorem rgetVals8_false {S : Nat → Prop} {A : Option Addr} {m c a : Nat} {bs : B} {w : World} (hs : Sl S w A m c bs) (hm : m ≤ 140737488355328) (ha : a ≤ m) (r : Res (List (B × Val))) (hr : getVals false (bs.drop a) = r) :
    Calls Try.prog 97 #[.slice A m c, .int .i64 (a : Int), .bool false] w fun e w' => ∃ A1 n1 c1 A2 n2 c2, ∃ q : Nat, e = .returned (.tuple #[.slice A1 n1 c1, .slice A2 n2 c2, .int .i64 (q : Int), .int .i64 (rerr r)]) ∧ RunR (fun b => w.heap.size ≤ b) w' A1 n1 c1 A2 n2 c2 ((rval [] r).map (·.2)) (nmsV false (rval [] r)) ∧ AtR bs q r ∧ Below w.heap.size w w' := by
  have HS := Lib.hid hs.lt
  have hlb := Lib.hid hs.len
  have hcp := hs.cap
  have hcm := hs.capMax
  clear hs
  have HR := Lib.hid hr; clear hr
  obtain ⟨rc, hrc⟩ : ∃ rc, getN 2 (bs.drop a) = rc := ⟨_, rfl⟩
  have HRC := Lib.hid hrc; clear hrc
  go_enter Try.func97, Try.ntmps97
  go_upto_region 2 with (first | (go_at_call 88; refine (rget_any (n := 2) HS.out ha (by decide) (by decide) rc HRC.out).mono ?_; rintro e w1 ⟨q0, rfl, hq0, rfl⟩; have HQ0 := Lib.hid hq0; clear hq0))
  cases rc with
  | error e =>
    have he : e = 10 := getN_err HRC.out
    have hne2 : (e != 0) = true := by rw [he]; rfl
    have HE : Hid (r = .error e) := Lib.hid (by rw [← HR.out]; exact gv_er HRC.out)
    clear he
    simp only [rval_error, rerr_error]
    go_wp2_with fail
    go_loopw [11, 12, 13, 14, 15] (fun tq er l nms i wr => tq = .int .i64 (q0 : Nat) ∧ er = .int .i64 e ∧ l = .slice none 0 0 ∧ nms = .slice none 0 0 ∧ i = .int .u64 ((0 : Nat) : Int) ∧ w = wr) (fun _ _ _ _ _ _ => 0)
    case atStart => exact ⟨rfl, rfl, rfl, rfl, rfl, rfl⟩
    case round =>
      obtain ⟨rfl, rfl, rfl, rfl, rfl, rfl⟩ := hrel
      go_wp2_with fail
      refine bodyPost_ret (results_tmp4 rfl _) rfl ?_
      rw [HE.out]
      exact ⟨none, 0, 0, none, 0, 0, 0, rfl, ⟨Arr.nil, Arr.nil⟩, AtR.err, Below.refl _ _⟩
  | ok p =>
    obtain ⟨N, b0⟩ := p
    have hN := (getN_ok HRC.out).2.2.2
    simp only [Nat.reducePow] at hN
    have HRG : Hid (getsM (entR false) N b0 = r) := Lib.hid (by rw [← HR.out]; exact (gv_ok HRC.out).symm)
    simp only [rval_ok, rerr_ok]
    have HQD : Hid (q0 ≤ bs.length ∧ bs.drop q0 = b0) := Lib.hid ⟨HQ0.out.le, HQ0.out.drop⟩
    clear HQ0
    go_wp2_with fail
    go_loopw [11, 12, 13, 14, 15] (fun tq er l nms i wr => ∃ ρ k q A1 n1 c1 A2 n2 c2 xs st, k ≤ N ∧ i = .int .u64 (k : Nat) ∧ tq = .int .i64 (q : Nat) ∧ er = .int .i64 (werr st) ∧ l = .slice A1 n1 c1 ∧ nms = .slice A2 n2 c2 ∧ Hid (GotV false N b0 k xs st) ∧ Hid (Bs ρ (fun _ => False) w wr) ∧ Hid (∀ rest, st = .ok rest → xs.length = k ∧ OwnS 43 2 valRf (Rl ρ 4) wr A1 n1 c1 (xs.map (·.2)) ∧ OwnS 9 1 strP (Rl ρ 6) wr A2 n2 c2 (nmsV false xs) ∧ q ≤ bs.length ∧ bs.drop q = rest)) (fun _ _ _ _ i _ => N - (intOf i).toNat)
    case atStart => exact ⟨xt (fun _ => 0) w.heap.size 5, 0, q0, none, 0, 0, none, 0, 0, [], .ok b0, by omega, rfl, rfl, rfl, rfl, rfl, Lib.hid (GotV.zero _ _ _), Lib.hid (Bs.start w 5), Lib.hid fun rest h => ⟨rfl, OwnS.nil, (by exact OwnS.nil), HQD.out.1, by injection h with h; rw [← h]; exact HQD.out.2⟩⟩
    case round =>
      obtain ⟨ρ, k, q, A1, n1, c1, A2, n2, c2, xs, st, hk, rfl, rfl, rfl, rfl, rfl, HG, HB, HW⟩ := hrel
      have HBl := Lib.hid HB.out.below
      have hzr := HB.out.size
      cases st with
      | error e =>
        have hne := gsV_ne (HG.out.2 e rfl)
        have hne1 : (e == 0) = false := by simpa using hne
        have hne2 : (e != 0) = true := by simpa using hne
        have HE : Hid (r = .error e) := Lib.hid (HRG.out.symm.trans (HG.out.2 e rfl))
        clear hne HW HG
        simp only [werr_error]
        by_cases hlt : k < N
        all_goals
          go_wp2_with fail
          refine bodyPost_ret (results_tmp4 rfl _) rfl ?_
          rw [HE.out]
          exact ⟨none, 0, 0, none, 0, 0, 0, rfl, ⟨Arr.nil, Arr.nil⟩, AtR.err, HBl.out⟩
      | ok rest =>
        have HXL := Lib.hid (HW.out rest rfl).1
        have HO := Lib.hid (HW.out rest rfl).2.1
        have HN := Lib.hid (HW.out rest rfl).2.2.1
        have hqb := (HW.out rest rfl).2.2.2.1
        have HD := Lib.hid (HW.out rest rfl).2.2.2.2
        have hqm : q ≤ m := by have := hlb.out; omega
        clear HW hqb
        simp only [werr_ok]
        by_cases hlt : k < N
        · have hn1 : n1 ≤ 65536 := by have := HO.out.len (by decide); rw [List.length_map] at this; have := HXL.out; omega
          have hn2 : n2 ≤ 65536 := by have := HN.out.len (by decide); have := nmsV_len false xs; have := HXL.out; omega
          have HENT := Lib.hid (ent_noname rest)
          obtain ⟨rv, hrv⟩ : ∃ z, getValue rest = z := ⟨_, rfl⟩
          have HRV := Lib.hid hrv; clear hrv
          go_wp2_with fail
          refine (rgetValue_any (a := q) (HS.out.fin (HBl.out.alloc hzr _)) hm (by omega) rv (by rw [HD.out]; exact HRV.out)).mono ?_
          rintro e w5 ⟨q7, rfl, hq7, hb5⟩
          have HQ7 := Lib.hid hq7; clear hq7
          obtain ⟨ρ5, hx5⟩ : ∃ ρ5, ρ5 = xt ρ wr.heap.size 5 := ⟨_, rfl⟩
          have hba : Below wr.heap.size wr (wr.alloc (.cells #[.int .i64 0, .string ⟨#[]⟩] 43)) := (Below.refl _ _).alloc (Nat.le_refl _) _
          have HX5 : Hid (Bx (Rl ρ5 5) w5 wr.heap.size [.int .i64 0, .string ⟨#[]⟩]) := Lib.hid ((Bx.alloc wr #[.int .i64 0, .string ⟨#[]⟩] 43 (by show ρ5 _ = 5; rw [hx5]; exact xt_ge (Nat.le_refl _))).after hb5)
          have HK5 : Hid (OwnS 43 2 valRf (Rl ρ5 4) w5 A1 n1 c1 (xs.map (·.2))) := Lib.hid (hx5 ▸ (((HO.out.ext 5).after hba).after hb5))
          have HN5 : Hid (OwnS 9 1 strP (Rl ρ5 6) w5 A2 n2 c2 (nmsV false xs)) := Lib.hid (hx5 ▸ (((HN.out.ext 5).after hba).after hb5))
          have HB5 : Hid (Bs ρ5 (fun _ => False) w w5) := Lib.hid (hx5 ▸ (((HB.out.ext 5).after hba).after hb5))
          have hgx : wr.heap.size < w5.heap.size := HX5.out.lt
          obtain ⟨v, hv⟩ : ∃ v, v = rval Val.none rv := ⟨_, rfl⟩
          have hvl : v.bytes.length ≤ 9223372036854775807 := by
            rw [hv]
            cases rv with
            | error e => exact Nat.zero_le _
            | ok p =>
              have h1 := gv_bytes HRV.out
              have h2 := congrArg List.length HD.out
              rw [List.length_drop] at h2
              have := hlb.out
              simp only [rval_ok]
              omega
          rw [← hv]
          have HV := Lib.hid hv; clear hv
          obtain ⟨st, hst, HG2, hok⟩ := HG.out.fin hlt HENT.out HRV.out
          have HST := Lib.hid hst; clear hst
          have HOK := Lib.hid hok; clear hok
          have HGN := Lib.hid HG2; clear HG2
          rw [← HV.out] at HGN HOK
          obtain ⟨er, her⟩ : ∃ er, er = rerr rv := ⟨_, rfl⟩
          rw [← her]
          have HER : Hid (er = werr st) := Lib.hid (her.trans HST.out.symm)
          clear her HST hba hb5 hx5
          go_wp2_with (first | (refine wpList_storeB HX5.out (by rfl) 43 _ _ (by rfl) 0 [.int .i64 v.kind, .string (str v.bytes)] (by rfl) (by rfl) (by kernel_rfl) (by show 0 + 2 ≤ 2; decide) (by rfl) ?_; intro w6 hx6 hg6; have HX6 : Hid (Bx (Rl ρ5 5) w6 wr.heap.size [.int .i64 v.kind, .string (str v.bytes)]) := Lib.hid hx6; have hf6 : Fr (Rl ρ5 5) w5 w6 := Fr.of_grown hg6 (fun b e => by injection e with e; subst e; exact HX5.out.role); have HK6 := Lib.hid (HK5.out.stay hf6); have HN6 := Lib.hid (HN5.out.stay hf6); have HB6 := Lib.hid (HB5.out.stay hf6); clear hx6 hg6 hf6) | (refine wpList_loadB HX6.out (by rfl) 43 _ (by rfl) (by rfl) _ Try.underlying43 rfl (by kernel_rfl) ?_) | (at_builtin; refine wpList_appX rfl tyV _ _ rfl (ρ := ρ5) (r := 4) _ _ _ (xs.map (·.2)) rfl (HK6.out.after ((Below.refl _ _).alloc (Nat.le_refl _) _)) _ _ _ _ [v] rfl (arr_lit (P := valRf) _ #[.int .i64 v.kind, .string (str v.bytes)] v rfl ⟨rfl, hvl⟩ (by simp)) (fun _ _ h => valRf_one _ _ h) (fun _ _ _ h => h) (by omega) (by unfold maxLen; omega) ?_; intro A7 m7 d7 w7 ρ7 hx7 hown7 hf7; have hbb : Below w6.heap.size w6 (w6.alloc (.cells #[.int .i64 v.kind, .string (str v.bytes)] 43)) := (Below.refl _ _).alloc (Nat.le_refl _) _; have HK7 := Lib.hid hown7; have HN7 := Lib.hid ((HN6.out.after hbb).stepx hf7 hx7); have HB7 := Lib.hid ((HB6.out.after hbb).stepx hf7 hx7); clear hx7 hown7 hf7 hbb))
          refine ⟨⟨ρ7, k + 1, q7, A7, _, d7, A2, n2, c2, xs ++ [([], v)], st, by omega, by go_num, rfl, by rw [HER.out], rfl, rfl, HGN, HB7, Lib.hid fun rest' h => ?_⟩, by simp [intOf]; omega⟩
          have hrvo := HOK.out rest' h
          have hat := HQ7.out
          rw [hrvo] at hat
          exact ⟨by rw [List.length_append, HXL.out]; rfl, HK7.out.as (by simp), HN7.out.as (nms_snoc_f xs ([], v)).symm, hat.le, hat.drop⟩
        · obtain rfl : k = N := by omega
          have HE : Hid (r = .ok (xs, rest)) := Lib.hid (HRG.out.symm.trans (HG.out.1 rest rfl))
          go_wp2_with fail
          refine bodyPost_ret (results_tmp4 rfl _) rfl ?_
          rw [HE.out]
          exact ⟨A1, n1, c1, A2, n2, c2, q, rfl, ⟨(HO.out.arr (by decide)).mono fun b hb _ => HB.out.ge hb (by decide), (HN.out.arr (by decide)).mono fun b hb _ => HB.out.ge hb (by decide)⟩, AtR.ok (by have := hlb.out; omega) HD.out, HBl.out⟩
set_option maxHeartbeats 8000000 in
set_option maxRecDepth 100000 in
theorem rgetVals8_true {S : Nat → Prop} {A : Option Addr} {m c a : Nat} {bs : B} {w : World} (hs : Sl S w A m c bs) (hm : m ≤ 140737488355328) (ha : a ≤ m) (r : Res (List (B × Val))) (hr : getVals true (bs.drop a) = r) :
    Calls Try.prog 97 #[.slice A m c, .int .i64 (a : Int), .bool true] w fun e w' => ∃ A1 n1 c1 A2 n2 c2, ∃ q : Nat, e = .returned (.tuple #[.slice A1 n1 c1, .slice A2 n2 c2, .int .i64 (q : Int), .int .i64 (rerr r)]) ∧ RunR (fun b => w.heap.size ≤ b) w' A1 n1 c1 A2 n2 c2 ((rval [] r).map (·.2)) (nmsV true (rval [] r)) ∧ AtR bs q r ∧ Below w.heap.size w w' := by
  have HS := Lib.hid hs.lt
  have hlb := Lib.hid hs.len
  have hcp := hs.cap
  have hcm := hs.capMax
  clear hs
  have HR := Lib.hid hr; clear hr
  obtain ⟨rc, hrc⟩ : ∃ rc, getN 2 (bs.drop a) = rc := ⟨_, rfl⟩
  have HRC := Lib.hid hrc; clear hrc
  go_enter Try.func97, Try.ntmps97
  go_upto_region 2 with (first | (go_at_call 88; refine (rget_any (n := 2) HS.out ha (by decide) (by decide) rc HRC.out).mono ?_; rintro e w1 ⟨q0, rfl, hq0, rfl⟩; have HQ0 := Lib.hid hq0; clear hq0))
  cases rc with
  | error e =>
    have he : e = 10 := getN_err HRC.out
    have hne2 : (e != 0) = true := by rw [he]; rfl
    have HE : Hid (r = .error e) := Lib.hid (by rw [← HR.out]; exact gv_er HRC.out)
    clear he
    simp only [rval_error, rerr_error]
    go_wp2_with fail
    go_loopw [11, 12, 13, 14, 15] (fun tq er l nms i wr => tq = .int .i64 (q0 : Nat) ∧ er = .int .i64 e ∧ l = .slice none 0 0 ∧ nms = .slice none 0 0 ∧ i = .int .u64 ((0 : Nat) : Int) ∧ w = wr) (fun _ _ _ _ _ _ => 0)
    case atStart => exact ⟨rfl, rfl, rfl, rfl, rfl, rfl⟩
    case round =>
      obtain ⟨rfl, rfl, rfl, rfl, rfl, rfl⟩ := hrel
      go_wp2_with fail
      refine bodyPost_ret (results_tmp4 rfl _) rfl ?_
      rw [HE.out]
      exact ⟨none, 0, 0, none, 0, 0, 0, rfl, ⟨Arr.nil, Arr.nil⟩, AtR.err, Below.refl _ _⟩
  | ok p =>
    obtain ⟨N, b0⟩ := p
    have hN := (getN_ok HRC.out).2.2.2
    simp only [Nat.reducePow] at hN
    have HRG : Hid (getsM (entR true) N b0 = r) := Lib.hid (by rw [← HR.out]; exact (gv_ok HRC.out).symm)
    simp only [rval_ok, rerr_ok]
    have HQD : Hid (q0 ≤ bs.length ∧ bs.drop q0 = b0) := Lib.hid ⟨HQ0.out.le, HQ0.out.drop⟩
    clear HQ0
    go_wp2_with fail
    go_loopw [11, 12, 13, 14, 15] (fun tq er l nms i wr => ∃ ρ k q A1 n1 c1 A2 n2 c2 xs st, k ≤ N ∧ i = .int .u64 (k : Nat) ∧ tq = .int .i64 (q : Nat) ∧ er = .int .i64 (werr st) ∧ l = .slice A1 n1 c1 ∧ nms = .slice A2 n2 c2 ∧ Hid (GotV true N b0 k xs st) ∧ Hid (Bs ρ (fun _ => False) w wr) ∧ Hid (∀ rest, st = .ok rest → xs.length = k ∧ OwnS 43 2 valRf (Rl ρ 4) wr A1 n1 c1 (xs.map (·.2)) ∧ OwnS 9 1 strP (Rl ρ 6) wr A2 n2 c2 (nmsV true xs) ∧ q ≤ bs.length ∧ bs.drop q = rest)) (fun _ _ _ _ i _ => N - (intOf i).toNat)
    case atStart => exact ⟨xt (fun _ => 0) w.heap.size 5, 0, q0, none, 0, 0, none, 0, 0, [], .ok b0, by omega, rfl, rfl, rfl, rfl, rfl, Lib.hid (GotV.zero _ _ _), Lib.hid (Bs.start w 5), Lib.hid fun rest h => ⟨rfl, OwnS.nil, (by exact OwnS.nil), HQD.out.1, by injection h with h; rw [← h]; exact HQD.out.2⟩⟩
    case round =>
      obtain ⟨ρ, k, q, A1, n1, c1, A2, n2, c2, xs, st, hk, rfl, rfl, rfl, rfl, rfl, HG, HB, HW⟩ := hrel
      have HBl := Lib.hid HB.out.below
      have hzr := HB.out.size
      cases st with
      | error e =>
        have hne := gsV_ne (HG.out.2 e rfl)
        have hne1 : (e == 0) = false := by simpa using hne
        have hne2 : (e != 0) = true := by simpa using hne
        have HE : Hid (r = .error e) := Lib.hid (HRG.out.symm.trans (HG.out.2 e rfl))
        clear hne HW HG
        simp only [werr_error]
        by_cases hlt : k < N
        all_goals
          go_wp2_with fail
          refine bodyPost_ret (results_tmp4 rfl _) rfl ?_
          rw [HE.out]
          exact ⟨none, 0, 0, none, 0, 0, 0, rfl, ⟨Arr.nil, Arr.nil⟩, AtR.err, HBl.out⟩
      | ok rest =>
        have HXL := Lib.hid (HW.out rest rfl).1
        have HO := Lib.hid (HW.out rest rfl).2.1
        have HN := Lib.hid (HW.out rest rfl).2.2.1
        have hqb := (HW.out rest rfl).2.2.2.1
        have HD := Lib.hid (HW.out rest rfl).2.2.2.2
        have hqm : q ≤ m := by have := hlb.out; omega
        clear HW hqb
        simp only [werr_ok]
        by_cases hlt : k < N
        · have hn1 : n1 ≤ 65536 := by have := HO.out.len (by decide); rw [List.length_map] at this; have := HXL.out; omega
          have hn2 : n2 ≤ 65536 := by have := HN.out.len (by decide); have := nmsV_len true xs; have := HXL.out; omega
          obtain ⟨rk, hrk⟩ : ∃ z, getText rest = z := ⟨_, rfl⟩
          have HRK := Lib.hid hrk; clear hrk
          go_wp2_with fail
          refine (rgetText_any (a := q) (HS.out.fin HBl.out) hm (by omega) rk (by rw [HD.out]; exact HRK.out)).mono ?_
          rintro e w2 ⟨q4, rfl, hq4, rfl⟩
          have HQ4 := Lib.hid hq4; clear hq4
          cases rk with
          | error e2 =>
            have hne : (e2 != 0) = true := by simpa using gt_ne HRK.out
            have HE : Hid (r = .error e2) := Lib.hid (HRG.out.symm.trans (getsM_stop hlt (HG.out.1 rest rfl) (ent_name_er HRK.out)))
            simp only [rval_error, rerr_error]
            go_wp2_with fail
            refine bodyPost_ret (results_tmp4 rfl _) rfl ?_
            rw [HE.out]
            exact ⟨none, 0, 0, none, 0, 0, 0, rfl, ⟨Arr.nil, Arr.nil⟩, AtR.err, HBl.out⟩
          | ok ps =>
            obtain ⟨s, r2⟩ := ps
            have hsl : s.length ≤ 65535 := (getText_ok HRK.out).1
            have HENT := Lib.hid (ent_name HRK.out)
            have hq5 : q4 ≤ m := by have := HQ4.out.le; have := hlb.out; omega
            have HD4 := Lib.hid HQ4.out.drop
            clear HQ4 HRK
            simp only [rval_ok, rerr_ok]
            go_wp2_with (first | (at_builtin; refine wpList_appX rfl tyStr _ _ rfl (ρ := ρ) (r := 6) _ _ _ (nmsV true xs) rfl (HN.out.after ((Below.refl _ _).alloc (Nat.le_refl _) _)) _ _ _ _ [s] rfl (arr_lit (P := strP) _ #[.string (str s)] s rfl ⟨rfl, by omega⟩ (by simp)) strP_one (fun _ _ _ h => h) (by omega) (by unfold maxLen; omega) ?_; intro A4 m4 d4 w4 ρ4 hx4 hown4 hf4; have hba : Below wr.heap.size wr (wr.alloc (.cells #[.string (str s)] 9)) := (Below.refl _ _).alloc (Nat.le_refl _) _; have HN4 := Lib.hid hown4; have HK4 := Lib.hid ((HO.out.after hba).stepx hf4 hx4); have HB4 := Lib.hid ((HB.out.after hba).stepx hf4 hx4); clear hba hown4 hf4 hx4))
            have HBl4 := Lib.hid HB4.out.below
            have hz4 := HB4.out.size
            obtain ⟨rv, hrv⟩ : ∃ z, getValue r2 = z := ⟨_, rfl⟩
            have HRV := Lib.hid hrv; clear hrv
            refine (rgetValue_any (a := q4) (HS.out.fin (HBl4.out.alloc hz4 _)) hm (by omega) rv (by rw [HD4.out]; exact HRV.out)).mono ?_
            rintro e w5 ⟨q7, rfl, hq7, hb5⟩
            have HQ7 := Lib.hid hq7; clear hq7
            obtain ⟨ρ5, hx5⟩ : ∃ ρ5, ρ5 = xt ρ4 w4.heap.size 5 := ⟨_, rfl⟩
            have hba : Below w4.heap.size w4 (w4.alloc (.cells #[.int .i64 0, .string ⟨#[]⟩] 43)) := (Below.refl _ _).alloc (Nat.le_refl _) _
            have HX5 : Hid (Bx (Rl ρ5 5) w5 w4.heap.size [.int .i64 0, .string ⟨#[]⟩]) := Lib.hid ((Bx.alloc w4 #[.int .i64 0, .string ⟨#[]⟩] 43 (by show ρ5 _ = 5; rw [hx5]; exact xt_ge (Nat.le_refl _))).after hb5)
            have HK5 : Hid (OwnS 43 2 valRf (Rl ρ5 4) w5 A1 n1 c1 (xs.map (·.2))) := Lib.hid (hx5 ▸ (((HK4.out.ext 5).after hba).after hb5))
            have HN5 : Hid (OwnS 9 1 strP (Rl ρ5 6) w5 A4 _ d4 (nmsV true xs ++ [s])) := Lib.hid (hx5 ▸ (((HN4.out.ext 5).after hba).after hb5))
            have HB5 : Hid (Bs ρ5 (fun _ => False) w w5) := Lib.hid (hx5 ▸ (((HB4.out.ext 5).after hba).after hb5))
            have hgx : w4.heap.size < w5.heap.size := HX5.out.lt
            obtain ⟨v, hv⟩ : ∃ v, v = rval Val.none rv := ⟨_, rfl⟩
            have hvl : v.bytes.length ≤ 9223372036854775807 := by
              rw [hv]
              cases rv with
              | error e => exact Nat.zero_le _
              | ok p =>
                have h1 := gv_bytes HRV.out
                have h2 := congrArg List.length HD4.out
                rw [List.length_drop] at h2
                have := hlb.out
                simp only [rval_ok]
                omega
            rw [← hv]
            have HV := Lib.hid hv; clear hv
            obtain ⟨st, hst, HG2, hok⟩ := HG.out.fin hlt HENT.out HRV.out
            have HST := Lib.hid hst; clear hst
            have HOK := Lib.hid hok; clear hok
            have HGN := Lib.hid HG2; clear HG2
            rw [← HV.out] at HGN HOK
            obtain ⟨er, her⟩ : ∃ er, er = rerr rv := ⟨_, rfl⟩
            rw [← her]
            have HER : Hid (er = werr st) := Lib.hid (her.trans HST.out.symm)
            clear her HST hba hb5 hx5
            go_wp2_with (first | (refine wpList_storeB HX5.out (by rfl) 43 _ _ (by rfl) 0 [.int .i64 v.kind, .string (str v.bytes)] (by rfl) (by rfl) (by kernel_rfl) (by show 0 + 2 ≤ 2; decide) (by rfl) ?_; intro w6 hx6 hg6; have HX6 : Hid (Bx (Rl ρ5 5) w6 w4.heap.size [.int .i64 v.kind, .string (str v.bytes)]) := Lib.hid hx6; have hf6 : Fr (Rl ρ5 5) w5 w6 := Fr.of_grown hg6 (fun b e => by injection e with e; subst e; exact HX5.out.role); have HK6 := Lib.hid (HK5.out.stay hf6); have HN6 := Lib.hid (HN5.out.stay hf6); have HB6 := Lib.hid (HB5.out.stay hf6); clear hx6 hg6 hf6) | (refine wpList_loadB HX6.out (by rfl) 43 _ (by rfl) (by rfl) _ Try.underlying43 rfl (by kernel_rfl) ?_) | (at_builtin; refine wpList_appX rfl tyV _ _ rfl (ρ := ρ5) (r := 4) _ _ _ (xs.map (·.2)) rfl (HK6.out.after ((Below.refl _ _).alloc (Nat.le_refl _) _)) _ _ _ _ [v] rfl (arr_lit (P := valRf) _ #[.int .i64 v.kind, .string (str v.bytes)] v rfl ⟨rfl, hvl⟩ (by simp)) (fun _ _ h => valRf_one _ _ h) (fun _ _ _ h => h) (by omega) (by unfold maxLen; omega) ?_; intro A7 m7 d7 w7 ρ7 hx7 hown7 hf7; have hbb : Below w6.heap.size w6 (w6.alloc (.cells #[.int .i64 v.kind, .string (str v.bytes)] 43)) := (Below.refl _ _).alloc (Nat.le_refl _) _; have HK7 := Lib.hid hown7; have HN7 := Lib.hid ((HN6.out.after hbb).stepx hf7 hx7); have HB7 := Lib.hid ((HB6.out.after hbb).stepx hf7 hx7); clear hx7 hown7 hf7 hbb))
            refine ⟨⟨ρ7, k + 1, q7, A7, _, d7, A4, _, d4, xs ++ [(s, v)], st, by omega, by go_num, rfl, by rw [HER.out], rfl, rfl, HGN, HB7, Lib.hid fun rest' h => ?_⟩, by simp [intOf]; omega⟩
            have hrvo := HOK.out rest' h
            have hat := HQ7.out
            rw [hrvo] at hat
            exact ⟨by rw [List.length_append, HXL.out]; rfl, HK7.out.as (by simp), HN7.out.as (nms_snoc_t xs (s, v)).symm, hat.le, hat.drop⟩
        · obtain rfl : k = N := by omega
          have HE : Hid (r = .ok (xs, rest)) := Lib.hid (HRG.out.symm.trans (HG.out.1 rest rfl))
          go_wp2_with fail
          refine bodyPost_ret (results_tmp4 rfl _) rfl ?_
          rw [HE.out]
          exact ⟨A1, n1, c1, A2, n2, c2, q, rfl, ⟨(HO.out.arr (by decide)).mono fun b hb _ => HB.out.ge hb (by decide), (HN.out.arr (by decide)).mono fun b hb _ => HB.out.ge hb (by decide)⟩, AtR.ok (by have := hlb.out; omega) HD.out, HBl.out⟩
end Go.Proofs.Sb
