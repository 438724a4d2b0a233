/- Walks over prefix.read, Response, Request. Conditions: lengths up to 2^47. (written by gen_preread.py) -/
import Derived.Test.YtpgcadicamnpkaaPre
import Derived.Laws.EntriesVeiled
set_option linter.unusedVariables false
set_option linter.unusedSimpArgs false
namespace Go.Proofs.Sb
open Go.RowKit _root_.Sb

def partF (k : Nat) : Nat := if k = 0 then 22 else if k = 1 then 23 else 24
/-- the cells of a part: its flag, what reads it -/
def partP (x : Nat × Nat) (v : List Value) : Prop := v = [.int .u8 (x.1 : Int), .func (.func (partF x.2)) #[] #[]]
theorem and_flag2 : ∀ f : Fin 256, bits .and .u8 ((f : Nat) : Int) 2 = if flagB f 2 then 2 else 0 := by decide +kernel
theorem and_flag8 : ∀ f : Fin 256, bits .and .u8 ((f : Nat) : Int) 8 = if flagB f 8 then 8 else 0 := by decide +kernel
theorem and_flag4 : ∀ f : Fin 256, bits .and .u8 ((f : Nat) : Int) 4 = if flagB f 4 then 4 else 0 := by decide +kernel
theorem preAt.grown {base pb : Nat} {w w' : World} {p : Pre} (h : preAt base w pb p) (hb : Below w.heap.size w w') : preAt base w' pb p := h.after hb
theorem preAt.lt {base pb : Nat} {w : World} {p : Pre} (h : preAt base w pb p) : pb < w.heap.size := by
  obtain ⟨A0, n0, c0, A1, n1, c1, A2, n2, c2, h0, _⟩ := h
  exact World.block_lt_of_cell? w ⟨pb, 0, none⟩ h0
theorem readR_stop {f : Nat} {l : List (Nat × Nat)} {k : Nat} {g kk : Nat} {p q : Pre} {b r : B} {e : Int} (h : readR f (l.take k) p b = .ok (q, r)) (hx : l[k]? = some (g, kk)) (hf : flagB f g = true) (he : partR kk q r = .error e) : readR f l p b = .error e := by
  obtain ⟨hk, hx⟩ := List.getElem?_eq_some_iff.1 hx
  have h1 : l = (l.take k ++ [(g, kk)]) ++ l.drop (k + 1) := by
    rw [List.append_assoc]
    have : [(g, kk)] ++ l.drop (k + 1) = l.drop k := by rw [List.drop_eq_getElem_cons hk, hx]; rfl
    rw [this, List.take_append_drop]
  rw [h1]
  refine readR_app_err f _ _ p b e ?_
  rw [readR_snoc f g kk _ _ _ _ _ h, if_pos hf, he]
theorem readR_step {f : Nat} {l : List (Nat × Nat)} {k : Nat} {g kk : Nat} {p q q2 : Pre} {b r r2 : B} (h : readR f (l.take k) p b = .ok (q, r)) (hx : l[k]? = some (g, kk)) (hf : flagB f g = true) (he : partR kk q r = .ok (q2, r2)) : readR f (l.take (k + 1)) p b = .ok (q2, r2) := by
  obtain ⟨hk, hx⟩ := List.getElem?_eq_some_iff.1 hx
  rw [List.take_succ_eq_append_getElem hk, hx, readR_snoc f g kk _ _ _ _ _ h, if_pos hf, he]
theorem readR_skip {f : Nat} {l : List (Nat × Nat)} {k : Nat} {g kk : Nat} {p q : Pre} {b r : B} (h : readR f (l.take k) p b = .ok (q, r)) (hx : l[k]? = some (g, kk)) (hf : flagB f g = false) : readR f (l.take (k + 1)) p b = .ok (q, r) := by
  obtain ⟨hk, hx⟩ := List.getElem?_eq_some_iff.1 hx
  rw [List.take_succ_eq_append_getElem hk, hx, readR_snoc f g kk _ _ _ _ _ h, if_neg (by rw [hf]; decide)]
theorem partR_ne {k : Nat} {p : Pre} {b : B} {e : Int} (h : partR k p b = .error e) : e ≠ 0 := by
  unfold partR at h
  split at h
  · cases h1 : takeN 16 b with
    | error e1 => rw [h1] at h; injection h with h; have := takeN_err h1; omega
    | ok x => rw [h1] at h; cases h
  · split at h
    · cases h1 : getTexts b with
      | error e1 => rw [h1] at h; injection h with h; subst h; exact gts_ne h1
      | ok x => rw [h1] at h; cases h
    · cases h1 : getL entryR b with
      | error e1 => rw [h1] at h; injection h with h; subst h; exact getL_ne (fun _ _ h => er_ne h) h1
      | ok x => rw [h1] at h; cases h

theorem gcellp {w w' : World} {row : Option Nat} (hg : w.grownBy w' row) {b o : Nat} {v : Value} (hr : some b ≠ row) (h : w.cell? ⟨b, o, none⟩ = some v) : w'.cell? ⟨b, o, none⟩ = some v :=
  (World.cell?_of_block (hg.block b (World.block_lt_of_cell? w ⟨b, o, none⟩ h) hr)).trans h

set_option maxHeartbeats 4000000 in
set_option maxRecDepth 100000 in
theorem read_any {S Sp : Nat → Prop} {A Ap : Option Addr} {m c np cp f : Nat} {bs : B} {l : List (Nat × Nat)} {w : World} (hs : Sl S w A m c bs) (hm : m ≤ 140737488355328) (hf : f < 256) (hl : Arr 2 partP Sp w Ap np cp l) (hlk : ∀ x ∈ l, x = (2, 0) ∨ x = (8, 1) ∨ x = (4, 2)) (r : Res Pre) (hr : readR f l Pre.none bs = r) :
    Calls Try.prog 21 #[.int .u8 (f : Int), .slice A m c, .slice Ap np cp] w fun e w' => ∃ A0 n0 c0 A1 n1 c1 A2 n2 c2 A3 n3 c3, e = .returned (.tuple #[.agg #[.slice A0 n0 c0, .slice A1 n1 c1, .slice A2 n2 c2], .slice A3 n3 c3, .int .i64 (rerr r)]) ∧
      Sl (fun b => w.heap.size ≤ b) w' A0 n0 c0 (rval Pre.none r).tracing ∧ Arr 1 strP (fun b => w.heap.size ≤ b) w' A1 n1 c1 (rval Pre.none r).warnings ∧ Arr 3 (entryP (fun b => w.heap.size ≤ b) w') (fun b => w.heap.size ≤ b) w' A2 n2 c2 (rval Pre.none r).payload ∧ Sl S w' A3 n3 c3 (rrest r) ∧ Below w.heap.size w w' := by
  have hcap := hl.cap
  have hcm := hl.capMax
  have hlen := Lib.hid hl.len
  have HL := Lib.hid (hl.mono (S' := fun b => Sp b ∧ b < w.heap.size) fun _ h1 h2 => ⟨h1, h2⟩); clear hl
  have HLK := Lib.hid hlk; clear hlk
  have HR := Lib.hid hr; clear hr
  have HS := Lib.hid hs.lt; clear hs
  have ha2 := and_flag2 ⟨f, hf⟩
  have ha8 := and_flag8 ⟨f, hf⟩
  have ha4 := and_flag4 ⟨f, hf⟩
  simp only at ha2 ha8 ha4
  have HA2 := Lib.hid ha2; clear ha2
  have HA8 := Lib.hid ha8; clear ha8
  have HA4 := Lib.hid ha4; clear ha4
  go_enter Try.func21, Try.ntmps21
  go_wp2_with fail
  go_loopw [1, 11, 12, 13, 16] (fun u _ _ _ i wr => ∃ (k : Nat), ∃ A3 m3 c3 q cur, k ≤ np ∧ i = .int .i64 (k : Nat) ∧ u = .slice A3 m3 c3 ∧ Hid (readR f (l.take k) Pre.none bs = .ok (q, cur)) ∧ m3 ≤ 140737488355328 ∧ Sl (fun b => S b ∧ b < w.heap.size) wr A3 m3 c3 cur ∧ preAt (w.heap.size + 2) wr (w.heap.size + 1) q ∧ Below w.heap.size w wr ∧
    wr.cell? ⟨w.heap.size, 0, none⟩ = some (.slice none 0 0) ∧ wr.cell? ⟨w.heap.size, 1, none⟩ = some (.slice none 0 0) ∧ wr.cell? ⟨w.heap.size, 2, none⟩ = some (.slice none 0 0) ∧ wr.frozen? ⟨w.heap.size, 0, none⟩ = false ∧ wr.frozen? ⟨w.heap.size, 1, none⟩ = false ∧ wr.frozen? ⟨w.heap.size, 2, none⟩ = false) (fun _ _ _ _ i _ => np - (intOf i).toNat)
  case atStart =>
    refine ⟨0, A, m, c, Pre.none, bs, by omega, rfl, rfl, rfl, hm, HS.out.after (by repeat (first | exact Below.refl _ _ | assumption | refine Below.drew ?_ | refine below_drewN ?_ _ | refine Below.alloc ?_ (by simp) _ | refine Below.setCell ?_ (by simp) _)), ⟨none, 0, 0, none, 0, 0, none, 0, 0, by go_simp, by go_simp, by go_simp, Sl.nil, Arr.nil, Arr.nil, fun o => by go_simp⟩, (by repeat (first | exact Below.refl _ _ | assumption | refine Below.drew ?_ | refine below_drewN ?_ _ | refine Below.alloc ?_ (by simp) _ | refine Below.setCell ?_ (by simp) _)), by go_simp, by go_simp, by go_simp, by go_simp, by go_simp, by go_simp⟩
  case round =>
    obtain ⟨k, A3, m3, c3, q, cur, hk, rfl, rfl, HK, hm3, hs3, hpre, hbel, x0, x1, x2, y0, y1, y2⟩ := hrel
    have hsz := hbel.size
    have hplt := hpre.lt
    have hxl := World.block_lt_of_cell? wr ⟨w.heap.size, 0, none⟩ x0
    simp only at hxl
    by_cases hlt : k < np
    · obtain ⟨x, hx⟩ : ∃ x, l[k]? = some x := ⟨_, List.getElem?_eq_getElem (by have := hlen.out; omega)⟩
      have hkk := HLK.out x (List.mem_of_getElem? hx)
      have HS1 := Lib.hid (HL.out.after hbel)
      obtain ⟨b, o, rfl, hSb, hbs, HC⟩ := HS1.out.at (by decide) (by omega)
      obtain ⟨v, hv1, hp, hv2⟩ := HC k x hx
      have hp2 := Lib.hid hp
      clear HC hp
      rcases hkk with rfl | rfl | rfl
      · obtain ⟨rfl⟩ := hp2.out
        have hc0 := hv2 0 _ rfl
        have hc1 := hv2 1 _ rfl
        simp only [Nat.add_zero] at hc0
        have epf : partF 0 = 22 := rfl
        simp only [epf] at hc1
        clear epf
        clear hv1 hv2
        have HX := Lib.hid hx; clear hx
        cases hfl : flagB f 2 with
        | false =>
          have hand := HA2.out
          rw [hfl] at hand
          simp only [Bool.false_eq_true, if_false] at hand
          have HK2 := Lib.hid (readR_skip HK.out HX.out hfl)
          clear hfl
          go_wp2_with fail
          refine ⟨⟨k + 1, A3, m3, c3, q, cur, by omega, by go_num, rfl, HK2, hm3, hs3.after (by repeat (first | exact Below.refl _ _ | assumption | refine Below.drew ?_ | refine below_drewN ?_ _ | refine Below.alloc ?_ (by simp) _ | refine Below.setCell ?_ (by simp) _)), hpre.after (by repeat (first | exact Below.refl _ _ | assumption | refine Below.drew ?_ | refine below_drewN ?_ _ | refine Below.alloc ?_ (by simp) _ | refine Below.setCell ?_ (by simp) _)), (by repeat (first | exact Below.refl _ _ | assumption | refine Below.drew ?_ | refine below_drewN ?_ _ | refine Below.alloc ?_ (by first | (simp; done) | omega | (simp; omega)) _ | refine Below.setCell ?_ (by first | (simp; done) | omega | (simp; omega)) _)), kcell (by repeat (first | exact Below.refl _ _ | assumption | refine Below.drew ?_ | refine below_drewN ?_ _ | refine Below.alloc ?_ (by simp) _ | refine Below.setCell ?_ (by simp) _)) x0, kcell (by repeat (first | exact Below.refl _ _ | assumption | refine Below.drew ?_ | refine below_drewN ?_ _ | refine Below.alloc ?_ (by simp) _ | refine Below.setCell ?_ (by simp) _)) x1, kcell (by repeat (first | exact Below.refl _ _ | assumption | refine Below.drew ?_ | refine below_drewN ?_ _ | refine Below.alloc ?_ (by simp) _ | refine Below.setCell ?_ (by simp) _)) x2, kfroz (by repeat (first | exact Below.refl _ _ | assumption | refine Below.drew ?_ | refine below_drewN ?_ _ | refine Below.alloc ?_ (by simp) _ | refine Below.setCell ?_ (by simp) _)) hxl y0, kfroz (by repeat (first | exact Below.refl _ _ | assumption | refine Below.drew ?_ | refine below_drewN ?_ _ | refine Below.alloc ?_ (by simp) _ | refine Below.setCell ?_ (by simp) _)) hxl y1, kfroz (by repeat (first | exact Below.refl _ _ | assumption | refine Below.drew ?_ | refine below_drewN ?_ _ | refine Below.alloc ?_ (by simp) _ | refine Below.setCell ?_ (by simp) _)) hxl y2⟩, by simp [intOf]; omega⟩
        | true =>
          have hand := HA2.out
          rw [hfl] at hand
          simp only [if_true] at hand
          have HFL := Lib.hid hfl; clear hfl
          obtain ⟨rk, hrk⟩ : ∃ rk, partR 0 q cur = rk := ⟨_, rfl⟩
          have HRK := Lib.hid hrk; clear hrk
          have hcl := hs3.len
          have HCL := Lib.hid hcl; clear hcl
          go_wp2_with fail
          refine (trace_any (base := w.heap.size + 2) (by simp; omega) (hpre.after (by repeat (first | exact Below.refl _ _ | assumption | refine Below.drew ?_ | refine below_drewN ?_ _ | refine Below.alloc ?_ (by simp) _ | refine Below.setCell ?_ (by simp) _))) (hs3.after (by repeat (first | exact Below.refl _ _ | assumption | refine Below.drew ?_ | refine below_drewN ?_ _ | refine Below.alloc ?_ (by simp) _ | refine Below.setCell ?_ (by simp) _))) (fun b h => by have := h.2; omega) hm3 rk HRK.out).mono ?_
          rintro e w2 ⟨A4, m4, c4, rfl, hs4, hp4, hg4⟩
          have hbel2 : Below w.heap.size w w2 := below_grow (by repeat (first | exact Below.refl _ _ | assumption | refine Below.drew ?_ | refine below_drewN ?_ _ | refine Below.alloc ?_ (by first | (simp; done) | omega | (simp; omega)) _ | refine Below.setCell ?_ (by first | (simp; done) | omega | (simp; omega)) _)) hg4 (by simp; omega) (fun b e => by injection e with e; omega)
          have hz2 := hbel2.size
          have hz3 : wr.heap.size < w2.heap.size := by have := hg4.size; simp at this; omega
          replace x0 := gcellp hg4 (by simp) (kcell (by repeat (first | exact Below.refl _ _ | assumption | refine Below.drew ?_ | refine below_drewN ?_ _ | refine Below.alloc ?_ (by simp) _ | refine Below.setCell ?_ (by simp) _)) x0)
          replace x1 := gcellp hg4 (by simp) (kcell (by repeat (first | exact Below.refl _ _ | assumption | refine Below.drew ?_ | refine below_drewN ?_ _ | refine Below.alloc ?_ (by simp) _ | refine Below.setCell ?_ (by simp) _)) x1)
          replace x2 := gcellp hg4 (by simp) (kcell (by repeat (first | exact Below.refl _ _ | assumption | refine Below.drew ?_ | refine below_drewN ?_ _ | refine Below.alloc ?_ (by simp) _ | refine Below.setCell ?_ (by simp) _)) x2)
          replace y0 := gfroz hg4 (by simp) (by simp; omega) (kfroz (by repeat (first | exact Below.refl _ _ | assumption | refine Below.drew ?_ | refine below_drewN ?_ _ | refine Below.alloc ?_ (by simp) _ | refine Below.setCell ?_ (by simp) _)) hxl y0)
          replace y1 := gfroz hg4 (by simp) (by simp; omega) (kfroz (by repeat (first | exact Below.refl _ _ | assumption | refine Below.drew ?_ | refine below_drewN ?_ _ | refine Below.alloc ?_ (by simp) _ | refine Below.setCell ?_ (by simp) _)) hxl y1)
          replace y2 := gfroz hg4 (by simp) (by simp; omega) (kfroz (by repeat (first | exact Below.refl _ _ | assumption | refine Below.drew ?_ | refine below_drewN ?_ _ | refine Below.alloc ?_ (by simp) _ | refine Below.setCell ?_ (by simp) _)) hxl y2)
          clear hc0 hc1 hpre hs3
          cases rk with
          | error ek =>
            have hne : ek ≠ 0 := partR_ne HRK.out
            have h0 : r = .error ek := HR.out.symm.trans (readR_stop HK.out HX.out HFL.out HRK.out)
            subst h0
            clear HR hp4
            go_wp2_with fail
            refine bodyPost_ret (v := .tuple #[.agg #[.slice none 0 0, .slice none 0 0, .slice none 0 0], .slice none 0 0, .int .i64 ek]) (by simp [results, Try.results21, go_sem, x0, x1, x2]) rfl ?_
            exact ⟨_, _, _, _, _, _, _, _, _, _, _, _, rfl, Sl.nil, Arr.nil, Arr.nil, Sl.nil, (by repeat (first | exact Below.refl _ _ | assumption | refine Below.drew ?_ | refine below_drewN ?_ _ | refine Below.alloc ?_ (by first | (simp; done) | omega | (simp; omega)) _ | refine Below.setCell ?_ (by first | (simp; done) | omega | (simp; omega)) _))⟩
          | ok pk =>
            obtain ⟨q2, cur2⟩ := pk
            have hpre2 := hp4 _ rfl
            have HK2 := Lib.hid (readR_step HK.out HX.out HFL.out HRK.out)
            have hcl2 := partR_len HRK.out gts_len (fun b x r h => (getL_len er_len h).2)
            have hm4 : m4 ≤ 140737488355328 := by have := hs4.len; simp only [rrest_ok] at this; have := HCL.out; omega
            simp only [rerr_ok, rrest_ok] at hs4 ⊢
            clear hp4 hcl2
            go_wp2_with fail
            refine ⟨⟨k + 1, A4, m4, c4, q2, cur2, by omega, by go_num, rfl, HK2, hm4, hs4, hpre2, hbel2, x0, x1, x2, y0, y1, y2⟩, by simp [intOf]; omega⟩
      · obtain ⟨rfl⟩ := hp2.out
        have hc0 := hv2 0 _ rfl
        have hc1 := hv2 1 _ rfl
        simp only [Nat.add_zero] at hc0
        have epf : partF 1 = 23 := rfl
        simp only [epf] at hc1
        clear epf
        clear hv1 hv2
        have HX := Lib.hid hx; clear hx
        cases hfl : flagB f 8 with
        | false =>
          have hand := HA8.out
          rw [hfl] at hand
          simp only [Bool.false_eq_true, if_false] at hand
          have HK2 := Lib.hid (readR_skip HK.out HX.out hfl)
          clear hfl
          go_wp2_with fail
          refine ⟨⟨k + 1, A3, m3, c3, q, cur, by omega, by go_num, rfl, HK2, hm3, hs3.after (by repeat (first | exact Below.refl _ _ | assumption | refine Below.drew ?_ | refine below_drewN ?_ _ | refine Below.alloc ?_ (by simp) _ | refine Below.setCell ?_ (by simp) _)), hpre.after (by repeat (first | exact Below.refl _ _ | assumption | refine Below.drew ?_ | refine below_drewN ?_ _ | refine Below.alloc ?_ (by simp) _ | refine Below.setCell ?_ (by simp) _)), (by repeat (first | exact Below.refl _ _ | assumption | refine Below.drew ?_ | refine below_drewN ?_ _ | refine Below.alloc ?_ (by first | (simp; done) | omega | (simp; omega)) _ | refine Below.setCell ?_ (by first | (simp; done) | omega | (simp; omega)) _)), kcell (by repeat (first | exact Below.refl _ _ | assumption | refine Below.drew ?_ | refine below_drewN ?_ _ | refine Below.alloc ?_ (by simp) _ | refine Below.setCell ?_ (by simp) _)) x0, kcell (by repeat (first | exact Below.refl _ _ | assumption | refine Below.drew ?_ | refine below_drewN ?_ _ | refine Below.alloc ?_ (by simp) _ | refine Below.setCell ?_ (by simp) _)) x1, kcell (by repeat (first | exact Below.refl _ _ | assumption | refine Below.drew ?_ | refine below_drewN ?_ _ | refine Below.alloc ?_ (by simp) _ | refine Below.setCell ?_ (by simp) _)) x2, kfroz (by repeat (first | exact Below.refl _ _ | assumption | refine Below.drew ?_ | refine below_drewN ?_ _ | refine Below.alloc ?_ (by simp) _ | refine Below.setCell ?_ (by simp) _)) hxl y0, kfroz (by repeat (first | exact Below.refl _ _ | assumption | refine Below.drew ?_ | refine below_drewN ?_ _ | refine Below.alloc ?_ (by simp) _ | refine Below.setCell ?_ (by simp) _)) hxl y1, kfroz (by repeat (first | exact Below.refl _ _ | assumption | refine Below.drew ?_ | refine below_drewN ?_ _ | refine Below.alloc ?_ (by simp) _ | refine Below.setCell ?_ (by simp) _)) hxl y2⟩, by simp [intOf]; omega⟩
        | true =>
          have hand := HA8.out
          rw [hfl] at hand
          simp only [if_true] at hand
          have HFL := Lib.hid hfl; clear hfl
          obtain ⟨rk, hrk⟩ : ∃ rk, partR 1 q cur = rk := ⟨_, rfl⟩
          have HRK := Lib.hid hrk; clear hrk
          have hcl := hs3.len
          have HCL := Lib.hid hcl; clear hcl
          go_wp2_with fail
          refine (warn_any (base := w.heap.size + 2) (by simp; omega) (hpre.after (by repeat (first | exact Below.refl _ _ | assumption | refine Below.drew ?_ | refine below_drewN ?_ _ | refine Below.alloc ?_ (by simp) _ | refine Below.setCell ?_ (by simp) _))) (hs3.after (by repeat (first | exact Below.refl _ _ | assumption | refine Below.drew ?_ | refine below_drewN ?_ _ | refine Below.alloc ?_ (by simp) _ | refine Below.setCell ?_ (by simp) _))) (fun b h => by have := h.2; omega) hm3 rk HRK.out).mono ?_
          rintro e w2 ⟨A4, m4, c4, rfl, hs4, hp4, hg4⟩
          have hbel2 : Below w.heap.size w w2 := below_grow (by repeat (first | exact Below.refl _ _ | assumption | refine Below.drew ?_ | refine below_drewN ?_ _ | refine Below.alloc ?_ (by first | (simp; done) | omega | (simp; omega)) _ | refine Below.setCell ?_ (by first | (simp; done) | omega | (simp; omega)) _)) hg4 (by simp; omega) (fun b e => by injection e with e; omega)
          have hz2 := hbel2.size
          have hz3 : wr.heap.size < w2.heap.size := by have := hg4.size; simp at this; omega
          replace x0 := gcellp hg4 (by simp) (kcell (by repeat (first | exact Below.refl _ _ | assumption | refine Below.drew ?_ | refine below_drewN ?_ _ | refine Below.alloc ?_ (by simp) _ | refine Below.setCell ?_ (by simp) _)) x0)
          replace x1 := gcellp hg4 (by simp) (kcell (by repeat (first | exact Below.refl _ _ | assumption | refine Below.drew ?_ | refine below_drewN ?_ _ | refine Below.alloc ?_ (by simp) _ | refine Below.setCell ?_ (by simp) _)) x1)
          replace x2 := gcellp hg4 (by simp) (kcell (by repeat (first | exact Below.refl _ _ | assumption | refine Below.drew ?_ | refine below_drewN ?_ _ | refine Below.alloc ?_ (by simp) _ | refine Below.setCell ?_ (by simp) _)) x2)
          replace y0 := gfroz hg4 (by simp) (by simp; omega) (kfroz (by repeat (first | exact Below.refl _ _ | assumption | refine Below.drew ?_ | refine below_drewN ?_ _ | refine Below.alloc ?_ (by simp) _ | refine Below.setCell ?_ (by simp) _)) hxl y0)
          replace y1 := gfroz hg4 (by simp) (by simp; omega) (kfroz (by repeat (first | exact Below.refl _ _ | assumption | refine Below.drew ?_ | refine below_drewN ?_ _ | refine Below.alloc ?_ (by simp) _ | refine Below.setCell ?_ (by simp) _)) hxl y1)
          replace y2 := gfroz hg4 (by simp) (by simp; omega) (kfroz (by repeat (first | exact Below.refl _ _ | assumption | refine Below.drew ?_ | refine below_drewN ?_ _ | refine Below.alloc ?_ (by simp) _ | refine Below.setCell ?_ (by simp) _)) hxl y2)
          clear hc0 hc1 hpre hs3
          cases rk with
          | error ek =>
            have hne : ek ≠ 0 := partR_ne HRK.out
            have h0 : r = .error ek := HR.out.symm.trans (readR_stop HK.out HX.out HFL.out HRK.out)
            subst h0
            clear HR hp4
            go_wp2_with fail
            refine bodyPost_ret (v := .tuple #[.agg #[.slice none 0 0, .slice none 0 0, .slice none 0 0], .slice none 0 0, .int .i64 ek]) (by simp [results, Try.results21, go_sem, x0, x1, x2]) rfl ?_
            exact ⟨_, _, _, _, _, _, _, _, _, _, _, _, rfl, Sl.nil, Arr.nil, Arr.nil, Sl.nil, (by repeat (first | exact Below.refl _ _ | assumption | refine Below.drew ?_ | refine below_drewN ?_ _ | refine Below.alloc ?_ (by first | (simp; done) | omega | (simp; omega)) _ | refine Below.setCell ?_ (by first | (simp; done) | omega | (simp; omega)) _))⟩
          | ok pk =>
            obtain ⟨q2, cur2⟩ := pk
            have hpre2 := hp4 _ rfl
            have HK2 := Lib.hid (readR_step HK.out HX.out HFL.out HRK.out)
            have hcl2 := partR_len HRK.out gts_len (fun b x r h => (getL_len er_len h).2)
            have hm4 : m4 ≤ 140737488355328 := by have := hs4.len; simp only [rrest_ok] at this; have := HCL.out; omega
            simp only [rerr_ok, rrest_ok] at hs4 ⊢
            clear hp4 hcl2
            go_wp2_with fail
            refine ⟨⟨k + 1, A4, m4, c4, q2, cur2, by omega, by go_num, rfl, HK2, hm4, hs4, hpre2, hbel2, x0, x1, x2, y0, y1, y2⟩, by simp [intOf]; omega⟩
      · obtain ⟨rfl⟩ := hp2.out
        have hc0 := hv2 0 _ rfl
        have hc1 := hv2 1 _ rfl
        simp only [Nat.add_zero] at hc0
        have epf : partF 2 = 24 := rfl
        simp only [epf] at hc1
        clear epf
        clear hv1 hv2
        have HX := Lib.hid hx; clear hx
        cases hfl : flagB f 4 with
        | false =>
          have hand := HA4.out
          rw [hfl] at hand
          simp only [Bool.false_eq_true, if_false] at hand
          have HK2 := Lib.hid (readR_skip HK.out HX.out hfl)
          clear hfl
          go_wp2_with fail
          refine ⟨⟨k + 1, A3, m3, c3, q, cur, by omega, by go_num, rfl, HK2, hm3, hs3.after (by repeat (first | exact Below.refl _ _ | assumption | refine Below.drew ?_ | refine below_drewN ?_ _ | refine Below.alloc ?_ (by simp) _ | refine Below.setCell ?_ (by simp) _)), hpre.after (by repeat (first | exact Below.refl _ _ | assumption | refine Below.drew ?_ | refine below_drewN ?_ _ | refine Below.alloc ?_ (by simp) _ | refine Below.setCell ?_ (by simp) _)), (by repeat (first | exact Below.refl _ _ | assumption | refine Below.drew ?_ | refine below_drewN ?_ _ | refine Below.alloc ?_ (by first | (simp; done) | omega | (simp; omega)) _ | refine Below.setCell ?_ (by first | (simp; done) | omega | (simp; omega)) _)), kcell (by repeat (first | exact Below.refl _ _ | assumption | refine Below.drew ?_ | refine below_drewN ?_ _ | refine Below.alloc ?_ (by simp) _ | refine Below.setCell ?_ (by simp) _)) x0, kcell (by repeat (first | exact Below.refl _ _ | assumption | refine Below.drew ?_ | refine below_drewN ?_ _ | refine Below.alloc ?_ (by simp) _ | refine Below.setCell ?_ (by simp) _)) x1, kcell (by repeat (first | exact Below.refl _ _ | assumption | refine Below.drew ?_ | refine below_drewN ?_ _ | refine Below.alloc ?_ (by simp) _ | refine Below.setCell ?_ (by simp) _)) x2, kfroz (by repeat (first | exact Below.refl _ _ | assumption | refine Below.drew ?_ | refine below_drewN ?_ _ | refine Below.alloc ?_ (by simp) _ | refine Below.setCell ?_ (by simp) _)) hxl y0, kfroz (by repeat (first | exact Below.refl _ _ | assumption | refine Below.drew ?_ | refine below_drewN ?_ _ | refine Below.alloc ?_ (by simp) _ | refine Below.setCell ?_ (by simp) _)) hxl y1, kfroz (by repeat (first | exact Below.refl _ _ | assumption | refine Below.drew ?_ | refine below_drewN ?_ _ | refine Below.alloc ?_ (by simp) _ | refine Below.setCell ?_ (by simp) _)) hxl y2⟩, by simp [intOf]; omega⟩
        | true =>
          have hand := HA4.out
          rw [hfl] at hand
          simp only [if_true] at hand
          have HFL := Lib.hid hfl; clear hfl
          obtain ⟨rk, hrk⟩ : ∃ rk, partR 2 q cur = rk := ⟨_, rfl⟩
          have HRK := Lib.hid hrk; clear hrk
          have hcl := hs3.len
          have HCL := Lib.hid hcl; clear hcl
          go_wp2_with fail
          refine (load_any (base := w.heap.size + 2) (by simp; omega) (hpre.after (by repeat (first | exact Below.refl _ _ | assumption | refine Below.drew ?_ | refine below_drewN ?_ _ | refine Below.alloc ?_ (by simp) _ | refine Below.setCell ?_ (by simp) _))) (hs3.after (by repeat (first | exact Below.refl _ _ | assumption | refine Below.drew ?_ | refine below_drewN ?_ _ | refine Below.alloc ?_ (by simp) _ | refine Below.setCell ?_ (by simp) _))) (fun b h => by have := h.2; omega) hm3 rk HRK.out).mono ?_
          rintro e w2 ⟨A4, m4, c4, rfl, hs4, hp4, hg4⟩
          have hbel2 : Below w.heap.size w w2 := below_grow (by repeat (first | exact Below.refl _ _ | assumption | refine Below.drew ?_ | refine below_drewN ?_ _ | refine Below.alloc ?_ (by first | (simp; done) | omega | (simp; omega)) _ | refine Below.setCell ?_ (by first | (simp; done) | omega | (simp; omega)) _)) hg4 (by simp; omega) (fun b e => by injection e with e; omega)
          have hz2 := hbel2.size
          have hz3 : wr.heap.size < w2.heap.size := by have := hg4.size; simp at this; omega
          replace x0 := gcellp hg4 (by simp) (kcell (by repeat (first | exact Below.refl _ _ | assumption | refine Below.drew ?_ | refine below_drewN ?_ _ | refine Below.alloc ?_ (by simp) _ | refine Below.setCell ?_ (by simp) _)) x0)
          replace x1 := gcellp hg4 (by simp) (kcell (by repeat (first | exact Below.refl _ _ | assumption | refine Below.drew ?_ | refine below_drewN ?_ _ | refine Below.alloc ?_ (by simp) _ | refine Below.setCell ?_ (by simp) _)) x1)
          replace x2 := gcellp hg4 (by simp) (kcell (by repeat (first | exact Below.refl _ _ | assumption | refine Below.drew ?_ | refine below_drewN ?_ _ | refine Below.alloc ?_ (by simp) _ | refine Below.setCell ?_ (by simp) _)) x2)
          replace y0 := gfroz hg4 (by simp) (by simp; omega) (kfroz (by repeat (first | exact Below.refl _ _ | assumption | refine Below.drew ?_ | refine below_drewN ?_ _ | refine Below.alloc ?_ (by simp) _ | refine Below.setCell ?_ (by simp) _)) hxl y0)
          replace y1 := gfroz hg4 (by simp) (by simp; omega) (kfroz (by repeat (first | exact Below.refl _ _ | assumption | refine Below.drew ?_ | refine below_drewN ?_ _ | refine Below.alloc ?_ (by simp) _ | refine Below.setCell ?_ (by simp) _)) hxl y1)
          replace y2 := gfroz hg4 (by simp) (by simp; omega) (kfroz (by repeat (first | exact Below.refl _ _ | assumption | refine Below.drew ?_ | refine below_drewN ?_ _ | refine Below.alloc ?_ (by simp) _ | refine Below.setCell ?_ (by simp) _)) hxl y2)
          clear hc0 hc1 hpre hs3
          cases rk with
          | error ek =>
            have hne : ek ≠ 0 := partR_ne HRK.out
            have h0 : r = .error ek := HR.out.symm.trans (readR_stop HK.out HX.out HFL.out HRK.out)
            subst h0
            clear HR hp4
            go_wp2_with fail
            refine bodyPost_ret (v := .tuple #[.agg #[.slice none 0 0, .slice none 0 0, .slice none 0 0], .slice none 0 0, .int .i64 ek]) (by simp [results, Try.results21, go_sem, x0, x1, x2]) rfl ?_
            exact ⟨_, _, _, _, _, _, _, _, _, _, _, _, rfl, Sl.nil, Arr.nil, Arr.nil, Sl.nil, (by repeat (first | exact Below.refl _ _ | assumption | refine Below.drew ?_ | refine below_drewN ?_ _ | refine Below.alloc ?_ (by first | (simp; done) | omega | (simp; omega)) _ | refine Below.setCell ?_ (by first | (simp; done) | omega | (simp; omega)) _))⟩
          | ok pk =>
            obtain ⟨q2, cur2⟩ := pk
            have hpre2 := hp4 _ rfl
            have HK2 := Lib.hid (readR_step HK.out HX.out HFL.out HRK.out)
            have hcl2 := partR_len HRK.out gts_len (fun b x r h => (getL_len er_len h).2)
            have hm4 : m4 ≤ 140737488355328 := by have := hs4.len; simp only [rrest_ok] at this; have := HCL.out; omega
            simp only [rerr_ok, rrest_ok] at hs4 ⊢
            clear hp4 hcl2
            go_wp2_with fail
            refine ⟨⟨k + 1, A4, m4, c4, q2, cur2, by omega, by go_num, rfl, HK2, hm4, hs4, hpre2, hbel2, x0, x1, x2, y0, y1, y2⟩, by simp [intOf]; omega⟩
    · obtain rfl : k = np := by omega
      have h0 : r = .ok (q, cur) := by
        have := HK.out
        rw [List.take_of_length_le (by have := hlen.out; omega)] at this
        exact HR.out.symm.trans this
      subst h0
      obtain ⟨A5, n5, c5, A6, n6, c6, A7, n7, c7, p0, p1, p2, q0, q1, q2, hf⟩ := hpre
      have Q0 := Lib.hid q0; clear q0
      have Q1 := Lib.hid q1; clear q1
      have Q2 := Lib.hid q2; clear q2
      clear hf HK HR
      go_wp2_with fail
      refine bodyPost_ret (v := .tuple #[.agg #[.slice A5 n5 c5, .slice A6 n6 c6, .slice A7 n7 c7], .slice A3 m3 c3, .int .i64 0]) (by simp [results, Try.results21, go_sem, x0, x1, x2]) rfl ?_
      exact ⟨_, _, _, _, _, _, _, _, _, _, _, _, rfl, (((Q0.out.setCell (fun b h => by have := h.1; simp; omega) _).setCell (fun b h => by have := h.1; simp; omega) _).setCell (fun b h => by have := h.1; simp; omega) _).mono fun b h _ => by have := h.1; omega, (((Q1.out.setCell (fun b h => by have := h.1; simp; omega) _).setCell (fun b h => by have := h.1; simp; omega) _).setCell (fun b h => by have := h.1; simp; omega) _).mono fun b h _ => by have := h.1; omega, (((((Q2.out.setCell (fun b h => by have := h.1; simp; omega) _).setCell (fun b h => by have := h.1; simp; omega) _).setCell (fun b h => by have := h.1; simp; omega) _).mono (S' := fun b => w.heap.size ≤ b) fun b h _ => by have := h.1; omega).imp fun _ _ _ h => h.imp fun _ _ _ _ h => (((h.setCell (fun b h => by have := h.1; simp; omega) _).setCell (fun b h => by have := h.1; simp; omega) _).setCell (fun b h => by have := h.1; simp; omega) _).mono fun b h _ => by have := h.1; omega), (((hs3.setCell (fun b h => by have := h.2; simp; omega) _).setCell (fun b h => by have := h.2; simp; omega) _).setCell (fun b h => by have := h.2; simp; omega) _).mono fun b h _ => h.1, (by repeat (first | exact Below.refl _ _ | assumption | refine Below.drew ?_ | refine below_drewN ?_ _ | refine Below.alloc ?_ (by first | (simp; done) | omega | (simp; omega)) _ | refine Below.setCell ?_ (by first | (simp; done) | omega | (simp; omega)) _))⟩
end Go.Proofs.Sb
