/- Walks over reply.part, writing: each kind of part; and over the closures that write. Conditions: lengths up to 2^47. (written by gen_st.py) -/
import Derived.Test.YtfeeeighafflnaaGreatStb
import Derived.Test.YtfeeeighafflnaaGreatSame
set_option linter.unusedVariables false
set_option linter.unusedSimpArgs false
namespace Go.Proofs.Sb
open Go.RowKit _root_.Sb
end Go.Proofs.Sb
namespace Sb
def lenS : Wr → Nat | .ok b => b.length | .error _ => 0
theorem lenS_val (r : Wr) : (wval r).length = lenS r := by cases r <;> rfl
theorem lenS_both (s r : Wr) : lenS (bothW s r) ≤ lenS s + lenS r := by cases s <;> cases r <;> simp [bothW, lenS]
theorem bothS_err {s : Wr} {e : Int} (h : s = .error e) (r : Wr) : bothW s r = .error e := by subst h; rfl
theorem spz_text {x : B} {e : Int} (h : text x = .error e) : e ≠ 0 := text_ne h
theorem spz_level {x : Nat} {e : Int} (h : cons x = .error e) : e ≠ 0 := by
  unfold cons at h
  split at h
  · injection h with h; subst h; decide
  · cases h
theorem spz_ok {x : B} {e : Int} (h : (.ok x : Wr) = .error e) : e ≠ 0 := by cases h
theorem spz_texts {x : List B} {e : Int} (h : texts x = .error e) : e ≠ 0 := texts_ne h
theorem spz_multis {x : List (B × List B)} {e : Int} (h : putL multiW x = .error e) : e ≠ 0 := putL_ne (fun _ _ h => multiW_ne h) h
theorem spz_value {x : Val} {e : Int} (h : value x = .error e) : e ≠ 0 := value_ne h
theorem spz_inet {x : Adr} {e : Int} (h : inet x = .error e) : e ≠ 0 := by
  unfold inet at h
  split at h
  · cases h
  · injection h with h; subst h; decide
end Sb
namespace Go.Proofs.Sb
open Go.RowKit _root_.Sb

set_option maxHeartbeats 2000000 in
set_option maxRecDepth 100000 in
theorem stw_code {x : Nat} {w : World} (hx : x < 4294967296) (r : Wr) (hr : (.ok (enc 4 x) : Wr) = r) :
    Calls Tryz.prog 69 #[.int .u32 ((x : Nat) : Int)] w fun e w' => ∃ A n c, e = .returned (.tuple #[.slice A n c, .int .i64 (werr r)]) ∧ Own w.heap.size w' A n c (wval r) ∧ Below w.heap.size w w' := by
  subst hr
  go_enter Tryz.func69, Tryz.ntmps69
  go_wp2_with fail
  refine (put_any ((x : Nat) : Int) 4 _ (by decide) (by decide) (by omega) (by omega)).mono ?_
  rintro e w1 ⟨A, n, c, rfl, ho, hb⟩
  have HO := Lib.hid ho; have HB := Lib.hid hb; clear ho hb
  go_wp2_with fail
  go_ret2
  exact ⟨A, n, c, rfl, by simpa using HO.out, HB.out⟩
set_option maxHeartbeats 2000000 in
set_option maxRecDepth 100000 in
theorem stw_octet {x : Nat} {w : World} (hx : x < 256) (r : Wr) (hr : (.ok (enc 1 x) : Wr) = r) :
    Calls Tryz.prog 76 #[.int .u8 ((x : Nat) : Int)] w fun e w' => ∃ A n c, e = .returned (.tuple #[.slice A n c, .int .i64 (werr r)]) ∧ Own w.heap.size w' A n c (wval r) ∧ Below w.heap.size w w' := by
  subst hr
  go_enter Tryz.func76, Tryz.ntmps76
  go_wp2_with fail
  go_ret2
  have e : bv (enc 1 x) = [.int .u8 (x : Int)] := by
    simp [bv, enc, encAt]
    omega
  exact ⟨_, _, _, rfl, own_lit w _ 1 (enc 1 x) (by rw [e]) (by simp [enc]) (by decide) (Nat.le_refl _) rfl, (by repeat (first | exact Below.refl _ _ | assumption | refine Below.drew ?_ | refine below_drewN ?_ _ | refine Below.alloc ?_ (by simp) _ | refine Below.setCell ?_ (by simp) _))⟩
set_option maxHeartbeats 2000000 in
set_option maxRecDepth 100000 in
theorem stw_all {A : Option Addr} {m c : Nat} (w : World) :
    Calls Tryz.prog 89 #[.slice A m c] w fun e w' => e = .returned (.tuple #[.slice A m c, .int .i64 0]) ∧ Below w.heap.size w w' := by
  go_enter Tryz.func89, Tryz.ntmps89
  go_wp2_with fail
  go_ret2
  exact ⟨rfl, Below.refl _ _⟩

set_option maxHeartbeats 4000000 in
set_option maxRecDepth 100000 in
theorem spw_text {T : Nat → Prop} {w : World} {X P i : Nat} {s : Wr} {x : B} (h : StW T w X s) (hc0 : w.cell? ⟨P, i, none⟩ = some (.string (str x))) (hx : x.length ≤ 9223372036854775807) (hl : lenS s + lenS (text x) ≤ 140737488355328) :
    Calls Tryz.prog 49 #[.pointer (some ⟨X, 0, none⟩), .pointer (some ⟨P, i, none⟩), .func (.func 50) #[] #[], .func (.func 51) #[] #[]] w fun e w' => e = .returned (.tuple #[]) ∧ ∃ T', SW w T w' X (bothW s (text x)) T' := by
  have HA := Lib.hid h
  have HP0 := Lib.hid hx; clear hx
  obtain ⟨A, n, c, bs0, h1, h2, h3, h4, h5⟩ := h.ex
  have HBX := Lib.hid h2; clear h2
  have k0 := HBX.out.c 0 _ rfl
  have k1 := HBX.out.c 1 _ rfl
  have k2 := HBX.out.c 2 _ rfl
  clear h1 h3
  cases s with
  | error e =>
    have hne : (e != 0) = true := bne_iff_ne.2 (h5 e rfl)
    simp only [werr_error] at k2
    clear h4 h5 h
    go_enter Tryz.func49, Tryz.ntmps49
    go_wp2_with fail
    refine bodyPost_ret (v := .tuple #[]) (results_none rfl _ _ _) rfl ?_
    exact ⟨rfl, T, by rw [bothS_err rfl]; exact SW.refl HA.out⟩
  | ok bs =>
    simp only [werr_ok] at k2
    clear h4 h5 h
    obtain ⟨r, hr⟩ : ∃ r : Wr, (text x) = r := ⟨_, rfl⟩
    rw [hr] at hl ⊢
    have HR := Lib.hid hr; clear hr
    have HL := Lib.hid hl; clear hl
    go_enter Tryz.func49, Tryz.ntmps49
    go_wp2_with fail
    refine (text_any x _ HP0.out r HR.out).mono ?_
    rintro e w1 ⟨A2, n2, c2, rfl, ho, hb⟩
    have HSTW := Lib.hid ((SW.refl HA.out).after hb)
    obtain ⟨A, n, c, bs', h1, h2, h3, h4, h5⟩ := HSTW.out.at'.ex
    have hb' : bs' = bs := h4 bs rfl
    subst hb'
    have HO := Lib.hid h1; clear h1
    have HB := Lib.hid h2; clear h2
    have H3 := Lib.hid h3; clear h3
    clear h4 h5
    have c0 := HB.out.c 0 _ rfl
    have c1' := HB.out.c 1 _ rfl
    have f1 := HB.out.fr 1
    have f2 := HB.out.fr 2
    have q := HB.out.lt
    have HSL := Lib.hid ho.sl
    clear ho
    have hlen : bs'.length + (wval r).length ≤ 140737488355328 := by have h1 := HL.out; have e1 : lenS (.ok bs') = bs'.length := rfl; rw [lenS_val]; omega
    have HLEN := Lib.hid hlen; clear hlen
    clear k0 k1 k2 hb
    go_wp2_with (first | (at_builtin; refine wpList_appw rfl _ _ rfl 0 _ _ _ bs' rfl HO.out.1 _ _ _ _ (wval r) rfl HSL.out (by exact HLEN.out) (Nat.zero_le _) ?_; intro A5 m5 d5 w5 g1 g2 g3; have HG1 := Lib.hid g1; have HG2 := Lib.hid g2; have HG3 := Lib.hid g3; have HB5 := Lib.hid (goesBx.keep (Bx.mk (S := fun b => b = X) rfl HB.out.lt HB.out.c HB.out.fr) g2.size fun b e hl => g2.block b hl fun e2 => H3.out b e2.symm e); have c05 := HB5.out.c 0 _ rfl; have c15 := HB5.out.c 1 _ rfl; have c25 := HB5.out.c 2 _ rfl; have f15 := HB5.out.fr 1; have f25 := HB5.out.fr 2; have q5 := HB5.out.lt; clear g1 g2 g3 c0 c1' f1 f2))
    first | refine bodyPost_end (results_none rfl _ _ _) rfl ?_ | refine bodyPost_ret (v := .tuple #[]) (results_none rfl _ _ _) rfl ?_
    obtain ⟨T', hT⟩ := StW.push (r := r) HSTW.out.at'.lt HSTW.out.at'.mem HO.out HB5.out H3.out HG1.out HG2.out HG3.out (fun b e => by rw [e]; rfl) (fun e he => spz_text (HR.out.trans he))
    exact ⟨rfl, T', HSTW.out.trans hT⟩

set_option maxHeartbeats 4000000 in
set_option maxRecDepth 100000 in
theorem spw_level {T : Nat → Prop} {w : World} {X P i : Nat} {s : Wr} {x : Nat} (h : StW T w X s) (hc0 : w.cell? ⟨P, i, none⟩ = some (.int .u16 ((x : Nat) : Int))) (hx : x < 65536) (hl : lenS s + lenS (cons x) ≤ 140737488355328) :
    Calls Tryz.prog 71 #[.pointer (some ⟨X, 0, none⟩), .pointer (some ⟨P, i, none⟩), .func (.func 72) #[] #[], .func (.func 73) #[] #[]] w fun e w' => e = .returned (.tuple #[]) ∧ ∃ T', SW w T w' X (bothW s (cons x)) T' := by
  have HA := Lib.hid h
  have HP0 := Lib.hid hx; clear hx
  obtain ⟨A, n, c, bs0, h1, h2, h3, h4, h5⟩ := h.ex
  have HBX := Lib.hid h2; clear h2
  have k0 := HBX.out.c 0 _ rfl
  have k1 := HBX.out.c 1 _ rfl
  have k2 := HBX.out.c 2 _ rfl
  clear h1 h3
  cases s with
  | error e =>
    have hne : (e != 0) = true := bne_iff_ne.2 (h5 e rfl)
    simp only [werr_error] at k2
    clear h4 h5 h
    go_enter Tryz.func71, Tryz.ntmps71
    go_wp2_with fail
    refine bodyPost_ret (v := .tuple #[]) (results_none rfl _ _ _) rfl ?_
    exact ⟨rfl, T, by rw [bothS_err rfl]; exact SW.refl HA.out⟩
  | ok bs =>
    simp only [werr_ok] at k2
    clear h4 h5 h
    obtain ⟨r, hr⟩ : ∃ r : Wr, (cons x) = r := ⟨_, rfl⟩
    rw [hr] at hl ⊢
    have HR := Lib.hid hr; clear hr
    have HL := Lib.hid hl; clear hl
    go_enter Tryz.func71, Tryz.ntmps71
    go_wp2_with fail
    refine (consis_any ((x : Nat) : Int) _ (by omega) (by have := HP0.out; omega) r (by rw [← HR.out, Int.toNat_natCast])).mono ?_
    rintro e w1 ⟨A2, n2, c2, rfl, ho, hb⟩
    have HSTW := Lib.hid ((SW.refl HA.out).after hb)
    obtain ⟨A, n, c, bs', h1, h2, h3, h4, h5⟩ := HSTW.out.at'.ex
    have hb' : bs' = bs := h4 bs rfl
    subst hb'
    have HO := Lib.hid h1; clear h1
    have HB := Lib.hid h2; clear h2
    have H3 := Lib.hid h3; clear h3
    clear h4 h5
    have c0 := HB.out.c 0 _ rfl
    have c1' := HB.out.c 1 _ rfl
    have f1 := HB.out.fr 1
    have f2 := HB.out.fr 2
    have q := HB.out.lt
    have HSL := Lib.hid ho.sl
    clear ho
    have hlen : bs'.length + (wval r).length ≤ 140737488355328 := by have h1 := HL.out; have e1 : lenS (.ok bs') = bs'.length := rfl; rw [lenS_val]; omega
    have HLEN := Lib.hid hlen; clear hlen
    clear k0 k1 k2 hb
    go_wp2_with (first | (at_builtin; refine wpList_appw rfl _ _ rfl 0 _ _ _ bs' rfl HO.out.1 _ _ _ _ (wval r) rfl HSL.out (by exact HLEN.out) (Nat.zero_le _) ?_; intro A5 m5 d5 w5 g1 g2 g3; have HG1 := Lib.hid g1; have HG2 := Lib.hid g2; have HG3 := Lib.hid g3; have HB5 := Lib.hid (goesBx.keep (Bx.mk (S := fun b => b = X) rfl HB.out.lt HB.out.c HB.out.fr) g2.size fun b e hl => g2.block b hl fun e2 => H3.out b e2.symm e); have c05 := HB5.out.c 0 _ rfl; have c15 := HB5.out.c 1 _ rfl; have c25 := HB5.out.c 2 _ rfl; have f15 := HB5.out.fr 1; have f25 := HB5.out.fr 2; have q5 := HB5.out.lt; clear g1 g2 g3 c0 c1' f1 f2))
    first | refine bodyPost_end (results_none rfl _ _ _) rfl ?_ | refine bodyPost_ret (v := .tuple #[]) (results_none rfl _ _ _) rfl ?_
    obtain ⟨T', hT⟩ := StW.push (r := r) HSTW.out.at'.lt HSTW.out.at'.mem HO.out HB5.out H3.out HG1.out HG2.out HG3.out (fun b e => by rw [e]; rfl) (fun e he => spz_level (HR.out.trans he))
    exact ⟨rfl, T', HSTW.out.trans hT⟩

set_option maxHeartbeats 4000000 in
set_option maxRecDepth 100000 in
theorem spw_code {T : Nat → Prop} {w : World} {X P i : Nat} {s : Wr} {x : Nat} (h : StW T w X s) (hc0 : w.cell? ⟨P, i, none⟩ = some (.int .u32 ((x : Nat) : Int))) (hx : x < 4294967296) (hl : lenS s + lenS (.ok (enc 4 x)) ≤ 140737488355328) :
    Calls Tryz.prog 66 #[.pointer (some ⟨X, 0, none⟩), .pointer (some ⟨P, i, none⟩), .func (.func 67) #[] #[], .func (.func 69) #[] #[]] w fun e w' => e = .returned (.tuple #[]) ∧ ∃ T', SW w T w' X (bothW s (.ok (enc 4 x))) T' := by
  have HA := Lib.hid h
  have HP0 := Lib.hid hx; clear hx
  obtain ⟨A, n, c, bs0, h1, h2, h3, h4, h5⟩ := h.ex
  have HBX := Lib.hid h2; clear h2
  have k0 := HBX.out.c 0 _ rfl
  have k1 := HBX.out.c 1 _ rfl
  have k2 := HBX.out.c 2 _ rfl
  clear h1 h3
  cases s with
  | error e =>
    have hne : (e != 0) = true := bne_iff_ne.2 (h5 e rfl)
    simp only [werr_error] at k2
    clear h4 h5 h
    go_enter Tryz.func66, Tryz.ntmps66
    go_wp2_with fail
    refine bodyPost_ret (v := .tuple #[]) (results_none rfl _ _ _) rfl ?_
    exact ⟨rfl, T, by rw [bothS_err rfl]; exact SW.refl HA.out⟩
  | ok bs =>
    simp only [werr_ok] at k2
    clear h4 h5 h
    obtain ⟨r, hr⟩ : ∃ r : Wr, (.ok (enc 4 x)) = r := ⟨_, rfl⟩
    rw [hr] at hl ⊢
    have HR := Lib.hid hr; clear hr
    have HL := Lib.hid hl; clear hl
    go_enter Tryz.func66, Tryz.ntmps66
    go_wp2_with fail
    refine (stw_code HP0.out r HR.out).mono ?_
    rintro e w1 ⟨A2, n2, c2, rfl, ho, hb⟩
    have HSTW := Lib.hid ((SW.refl HA.out).after hb)
    obtain ⟨A, n, c, bs', h1, h2, h3, h4, h5⟩ := HSTW.out.at'.ex
    have hb' : bs' = bs := h4 bs rfl
    subst hb'
    have HO := Lib.hid h1; clear h1
    have HB := Lib.hid h2; clear h2
    have H3 := Lib.hid h3; clear h3
    clear h4 h5
    have c0 := HB.out.c 0 _ rfl
    have c1' := HB.out.c 1 _ rfl
    have f1 := HB.out.fr 1
    have f2 := HB.out.fr 2
    have q := HB.out.lt
    have HSL := Lib.hid ho.sl
    clear ho
    have hlen : bs'.length + (wval r).length ≤ 140737488355328 := by have h1 := HL.out; have e1 : lenS (.ok bs') = bs'.length := rfl; rw [lenS_val]; omega
    have HLEN := Lib.hid hlen; clear hlen
    clear k0 k1 k2 hb
    go_wp2_with (first | (at_builtin; refine wpList_appw rfl _ _ rfl 0 _ _ _ bs' rfl HO.out.1 _ _ _ _ (wval r) rfl HSL.out (by exact HLEN.out) (Nat.zero_le _) ?_; intro A5 m5 d5 w5 g1 g2 g3; have HG1 := Lib.hid g1; have HG2 := Lib.hid g2; have HG3 := Lib.hid g3; have HB5 := Lib.hid (goesBx.keep (Bx.mk (S := fun b => b = X) rfl HB.out.lt HB.out.c HB.out.fr) g2.size fun b e hl => g2.block b hl fun e2 => H3.out b e2.symm e); have c05 := HB5.out.c 0 _ rfl; have c15 := HB5.out.c 1 _ rfl; have c25 := HB5.out.c 2 _ rfl; have f15 := HB5.out.fr 1; have f25 := HB5.out.fr 2; have q5 := HB5.out.lt; clear g1 g2 g3 c0 c1' f1 f2))
    first | refine bodyPost_end (results_none rfl _ _ _) rfl ?_ | refine bodyPost_ret (v := .tuple #[]) (results_none rfl _ _ _) rfl ?_
    obtain ⟨T', hT⟩ := StW.push (r := r) HSTW.out.at'.lt HSTW.out.at'.mem HO.out HB5.out H3.out HG1.out HG2.out HG3.out (fun b e => by rw [e]; rfl) (fun e he => spz_ok (HR.out.trans he))
    exact ⟨rfl, T', HSTW.out.trans hT⟩

set_option maxHeartbeats 4000000 in
set_option maxRecDepth 100000 in
theorem spw_octet {T : Nat → Prop} {w : World} {X P i : Nat} {s : Wr} {x : Nat} (h : StW T w X s) (hc0 : w.cell? ⟨P, i, none⟩ = some (.int .u8 ((x : Nat) : Int))) (hx : x < 256) (hl : lenS s + lenS (.ok (enc 1 x)) ≤ 140737488355328) :
    Calls Tryz.prog 74 #[.pointer (some ⟨X, 0, none⟩), .pointer (some ⟨P, i, none⟩), .func (.func 75) #[] #[], .func (.func 76) #[] #[]] w fun e w' => e = .returned (.tuple #[]) ∧ ∃ T', SW w T w' X (bothW s (.ok (enc 1 x))) T' := by
  have HA := Lib.hid h
  have HP0 := Lib.hid hx; clear hx
  obtain ⟨A, n, c, bs0, h1, h2, h3, h4, h5⟩ := h.ex
  have HBX := Lib.hid h2; clear h2
  have k0 := HBX.out.c 0 _ rfl
  have k1 := HBX.out.c 1 _ rfl
  have k2 := HBX.out.c 2 _ rfl
  clear h1 h3
  cases s with
  | error e =>
    have hne : (e != 0) = true := bne_iff_ne.2 (h5 e rfl)
    simp only [werr_error] at k2
    clear h4 h5 h
    go_enter Tryz.func74, Tryz.ntmps74
    go_wp2_with fail
    refine bodyPost_ret (v := .tuple #[]) (results_none rfl _ _ _) rfl ?_
    exact ⟨rfl, T, by rw [bothS_err rfl]; exact SW.refl HA.out⟩
  | ok bs =>
    simp only [werr_ok] at k2
    clear h4 h5 h
    obtain ⟨r, hr⟩ : ∃ r : Wr, (.ok (enc 1 x)) = r := ⟨_, rfl⟩
    rw [hr] at hl ⊢
    have HR := Lib.hid hr; clear hr
    have HL := Lib.hid hl; clear hl
    go_enter Tryz.func74, Tryz.ntmps74
    go_wp2_with fail
    refine (stw_octet HP0.out r HR.out).mono ?_
    rintro e w1 ⟨A2, n2, c2, rfl, ho, hb⟩
    have HSTW := Lib.hid ((SW.refl HA.out).after hb)
    obtain ⟨A, n, c, bs', h1, h2, h3, h4, h5⟩ := HSTW.out.at'.ex
    have hb' : bs' = bs := h4 bs rfl
    subst hb'
    have HO := Lib.hid h1; clear h1
    have HB := Lib.hid h2; clear h2
    have H3 := Lib.hid h3; clear h3
    clear h4 h5
    have c0 := HB.out.c 0 _ rfl
    have c1' := HB.out.c 1 _ rfl
    have f1 := HB.out.fr 1
    have f2 := HB.out.fr 2
    have q := HB.out.lt
    have HSL := Lib.hid ho.sl
    clear ho
    have hlen : bs'.length + (wval r).length ≤ 140737488355328 := by have h1 := HL.out; have e1 : lenS (.ok bs') = bs'.length := rfl; rw [lenS_val]; omega
    have HLEN := Lib.hid hlen; clear hlen
    clear k0 k1 k2 hb
    go_wp2_with (first | (at_builtin; refine wpList_appw rfl _ _ rfl 0 _ _ _ bs' rfl HO.out.1 _ _ _ _ (wval r) rfl HSL.out (by exact HLEN.out) (Nat.zero_le _) ?_; intro A5 m5 d5 w5 g1 g2 g3; have HG1 := Lib.hid g1; have HG2 := Lib.hid g2; have HG3 := Lib.hid g3; have HB5 := Lib.hid (goesBx.keep (Bx.mk (S := fun b => b = X) rfl HB.out.lt HB.out.c HB.out.fr) g2.size fun b e hl => g2.block b hl fun e2 => H3.out b e2.symm e); have c05 := HB5.out.c 0 _ rfl; have c15 := HB5.out.c 1 _ rfl; have c25 := HB5.out.c 2 _ rfl; have f15 := HB5.out.fr 1; have f25 := HB5.out.fr 2; have q5 := HB5.out.lt; clear g1 g2 g3 c0 c1' f1 f2))
    first | refine bodyPost_end (results_none rfl _ _ _) rfl ?_ | refine bodyPost_ret (v := .tuple #[]) (results_none rfl _ _ _) rfl ?_
    obtain ⟨T', hT⟩ := StW.push (r := r) HSTW.out.at'.lt HSTW.out.at'.mem HO.out HB5.out H3.out HG1.out HG2.out HG3.out (fun b e => by rw [e]; rfl) (fun e he => spz_ok (HR.out.trans he))
    exact ⟨rfl, T', HSTW.out.trans hT⟩

set_option maxHeartbeats 4000000 in
set_option maxRecDepth 100000 in
theorem spw_texts {T : Nat → Prop} {w : World} {X P i : Nat} {s : Wr} {S : Nat → Prop} {A1 : Option Addr} {n1 c1 : Nat} {x : List B} (h : StW T w X s) (hc0 : w.cell? ⟨P, i, none⟩ = some (.slice A1 n1 c1)) (hx : Arr 1 strP S w A1 n1 c1 x) (hl : lenS s + lenS (texts x) ≤ 140737488355328) :
    Calls Tryz.prog 77 #[.pointer (some ⟨X, 0, none⟩), .pointer (some ⟨P, i, none⟩), .func (.func 78) #[] #[], .func (.func 79) #[] #[]] w fun e w' => e = .returned (.tuple #[]) ∧ ∃ T', SW w T w' X (bothW s (texts x)) T' := by
  have HA := Lib.hid h
  have HP0 := Lib.hid hx; clear hx
  obtain ⟨A, n, c, bs0, h1, h2, h3, h4, h5⟩ := h.ex
  have HBX := Lib.hid h2; clear h2
  have k0 := HBX.out.c 0 _ rfl
  have k1 := HBX.out.c 1 _ rfl
  have k2 := HBX.out.c 2 _ rfl
  clear h1 h3
  cases s with
  | error e =>
    have hne : (e != 0) = true := bne_iff_ne.2 (h5 e rfl)
    simp only [werr_error] at k2
    clear h4 h5 h
    go_enter Tryz.func77, Tryz.ntmps77
    go_wp2_with fail
    refine bodyPost_ret (v := .tuple #[]) (results_none rfl _ _ _) rfl ?_
    exact ⟨rfl, T, by rw [bothS_err rfl]; exact SW.refl HA.out⟩
  | ok bs =>
    simp only [werr_ok] at k2
    clear h4 h5 h
    obtain ⟨r, hr⟩ : ∃ r : Wr, (texts x) = r := ⟨_, rfl⟩
    rw [hr] at hl ⊢
    have HR := Lib.hid hr; clear hr
    have HL := Lib.hid hl; clear hl
    go_enter Tryz.func77, Tryz.ntmps77
    go_wp2_with fail
    refine (texts_any HP0.out r HR.out).mono ?_
    rintro e w1 ⟨A2, n2, c2, rfl, ho, hb⟩
    have HSTW := Lib.hid ((SW.refl HA.out).after hb)
    obtain ⟨A, n, c, bs', h1, h2, h3, h4, h5⟩ := HSTW.out.at'.ex
    have hb' : bs' = bs := h4 bs rfl
    subst hb'
    have HO := Lib.hid h1; clear h1
    have HB := Lib.hid h2; clear h2
    have H3 := Lib.hid h3; clear h3
    clear h4 h5
    have c0 := HB.out.c 0 _ rfl
    have c1' := HB.out.c 1 _ rfl
    have f1 := HB.out.fr 1
    have f2 := HB.out.fr 2
    have q := HB.out.lt
    have HSL := Lib.hid ho.sl
    clear ho
    have hlen : bs'.length + (wval r).length ≤ 140737488355328 := by have h1 := HL.out; have e1 : lenS (.ok bs') = bs'.length := rfl; rw [lenS_val]; omega
    have HLEN := Lib.hid hlen; clear hlen
    clear k0 k1 k2 hb
    go_wp2_with (first | (at_builtin; refine wpList_appw rfl _ _ rfl 0 _ _ _ bs' rfl HO.out.1 _ _ _ _ (wval r) rfl HSL.out (by exact HLEN.out) (Nat.zero_le _) ?_; intro A5 m5 d5 w5 g1 g2 g3; have HG1 := Lib.hid g1; have HG2 := Lib.hid g2; have HG3 := Lib.hid g3; have HB5 := Lib.hid (goesBx.keep (Bx.mk (S := fun b => b = X) rfl HB.out.lt HB.out.c HB.out.fr) g2.size fun b e hl => g2.block b hl fun e2 => H3.out b e2.symm e); have c05 := HB5.out.c 0 _ rfl; have c15 := HB5.out.c 1 _ rfl; have c25 := HB5.out.c 2 _ rfl; have f15 := HB5.out.fr 1; have f25 := HB5.out.fr 2; have q5 := HB5.out.lt; clear g1 g2 g3 c0 c1' f1 f2))
    first | refine bodyPost_end (results_none rfl _ _ _) rfl ?_ | refine bodyPost_ret (v := .tuple #[]) (results_none rfl _ _ _) rfl ?_
    obtain ⟨T', hT⟩ := StW.push (r := r) HSTW.out.at'.lt HSTW.out.at'.mem HO.out HB5.out H3.out HG1.out HG2.out HG3.out (fun b e => by rw [e]; rfl) (fun e he => spz_texts (HR.out.trans he))
    exact ⟨rfl, T', HSTW.out.trans hT⟩

set_option maxHeartbeats 4000000 in
set_option maxRecDepth 100000 in
theorem spw_multis {T : Nat → Prop} {w : World} {X P i : Nat} {s : Wr} {S : Nat → Prop} {A1 : Option Addr} {n1 c1 M : Nat} {x : List (B × List B)} (h : StW T w X s) (hc0 : w.cell? ⟨P, i, none⟩ = some (.slice A1 n1 c1)) (hx : Arr 2 (multiP S w) S w A1 n1 c1 x ∧ (∀ y ∈ x, ∀ b, multiW y = .ok b → b.length ≤ M) ∧ (x.length ≤ 65535 → 2 + x.length * M ≤ 140737488355328)) (hl : lenS s + lenS (putL multiW x) ≤ 140737488355328) :
    Calls Tryz.prog 52 #[.pointer (some ⟨X, 0, none⟩), .pointer (some ⟨P, i, none⟩), .func (.func 53) #[] #[], .func (.func 54) #[] #[]] w fun e w' => e = .returned (.tuple #[]) ∧ ∃ T', SW w T w' X (bothW s (putL multiW x)) T' := by
  have HA := Lib.hid h
  have HP0 := Lib.hid hx; clear hx
  obtain ⟨A, n, c, bs0, h1, h2, h3, h4, h5⟩ := h.ex
  have HBX := Lib.hid h2; clear h2
  have k0 := HBX.out.c 0 _ rfl
  have k1 := HBX.out.c 1 _ rfl
  have k2 := HBX.out.c 2 _ rfl
  clear h1 h3
  cases s with
  | error e =>
    have hne : (e != 0) = true := bne_iff_ne.2 (h5 e rfl)
    simp only [werr_error] at k2
    clear h4 h5 h
    go_enter Tryz.func52, Tryz.ntmps52
    go_wp2_with fail
    refine bodyPost_ret (v := .tuple #[]) (results_none rfl _ _ _) rfl ?_
    exact ⟨rfl, T, by rw [bothS_err rfl]; exact SW.refl HA.out⟩
  | ok bs =>
    simp only [werr_ok] at k2
    clear h4 h5 h
    obtain ⟨r, hr⟩ : ∃ r : Wr, (putL multiW x) = r := ⟨_, rfl⟩
    rw [hr] at hl ⊢
    have HR := Lib.hid hr; clear hr
    have HL := Lib.hid hl; clear hl
    go_enter Tryz.func52, Tryz.ntmps52
    go_wp2_with fail
    refine (multis_any HP0.out.1 HP0.out.2.1 HP0.out.2.2 r HR.out).mono ?_
    rintro e w1 ⟨A2, n2, c2, rfl, ho, hb⟩
    have HSTW := Lib.hid ((SW.refl HA.out).after hb)
    obtain ⟨A, n, c, bs', h1, h2, h3, h4, h5⟩ := HSTW.out.at'.ex
    have hb' : bs' = bs := h4 bs rfl
    subst hb'
    have HO := Lib.hid h1; clear h1
    have HB := Lib.hid h2; clear h2
    have H3 := Lib.hid h3; clear h3
    clear h4 h5
    have c0 := HB.out.c 0 _ rfl
    have c1' := HB.out.c 1 _ rfl
    have f1 := HB.out.fr 1
    have f2 := HB.out.fr 2
    have q := HB.out.lt
    have HSL := Lib.hid ho.sl
    clear ho
    have hlen : bs'.length + (wval r).length ≤ 140737488355328 := by have h1 := HL.out; have e1 : lenS (.ok bs') = bs'.length := rfl; rw [lenS_val]; omega
    have HLEN := Lib.hid hlen; clear hlen
    clear k0 k1 k2 hb
    go_wp2_with (first | (at_builtin; refine wpList_appw rfl _ _ rfl 0 _ _ _ bs' rfl HO.out.1 _ _ _ _ (wval r) rfl HSL.out (by exact HLEN.out) (Nat.zero_le _) ?_; intro A5 m5 d5 w5 g1 g2 g3; have HG1 := Lib.hid g1; have HG2 := Lib.hid g2; have HG3 := Lib.hid g3; have HB5 := Lib.hid (goesBx.keep (Bx.mk (S := fun b => b = X) rfl HB.out.lt HB.out.c HB.out.fr) g2.size fun b e hl => g2.block b hl fun e2 => H3.out b e2.symm e); have c05 := HB5.out.c 0 _ rfl; have c15 := HB5.out.c 1 _ rfl; have c25 := HB5.out.c 2 _ rfl; have f15 := HB5.out.fr 1; have f25 := HB5.out.fr 2; have q5 := HB5.out.lt; clear g1 g2 g3 c0 c1' f1 f2))
    first | refine bodyPost_end (results_none rfl _ _ _) rfl ?_ | refine bodyPost_ret (v := .tuple #[]) (results_none rfl _ _ _) rfl ?_
    obtain ⟨T', hT⟩ := StW.push (r := r) HSTW.out.at'.lt HSTW.out.at'.mem HO.out HB5.out H3.out HG1.out HG2.out HG3.out (fun b e => by rw [e]; rfl) (fun e he => spz_multis (HR.out.trans he))
    exact ⟨rfl, T', HSTW.out.trans hT⟩

set_option maxHeartbeats 4000000 in
set_option maxRecDepth 100000 in
theorem spw_value {T : Nat → Prop} {w : World} {X P i : Nat} {s : Wr} {S : Nat → Prop} {A1 : Option Addr} {n1 c1 : Nat} {x : Val} (h : StW T w X s) (hc0 : w.cell? ⟨P, i, none⟩ = some (.int .i64 x.kind)) (hc1 : w.cell? ⟨P, i + 1, none⟩ = some (.slice A1 n1 c1)) (hx : Sl S w A1 n1 c1 x.bytes ∧ n1 ≤ 140737488355324) (hl : lenS s + lenS (value x) ≤ 140737488355328) :
    Calls Tryz.prog 60 #[.pointer (some ⟨X, 0, none⟩), .pointer (some ⟨P, i, none⟩), .func (.func 61) #[] #[], .func (.func 62) #[] #[]] w fun e w' => e = .returned (.tuple #[]) ∧ ∃ T', SW w T w' X (bothW s (value x)) T' := by
  have HA := Lib.hid h
  have HP0 := Lib.hid hx; clear hx
  obtain ⟨A, n, c, bs0, h1, h2, h3, h4, h5⟩ := h.ex
  have HBX := Lib.hid h2; clear h2
  have k0 := HBX.out.c 0 _ rfl
  have k1 := HBX.out.c 1 _ rfl
  have k2 := HBX.out.c 2 _ rfl
  clear h1 h3
  cases s with
  | error e =>
    have hne : (e != 0) = true := bne_iff_ne.2 (h5 e rfl)
    simp only [werr_error] at k2
    clear h4 h5 h
    go_enter Tryz.func60, Tryz.ntmps60
    go_wp2_with fail
    refine bodyPost_ret (v := .tuple #[]) (results_none rfl _ _ _) rfl ?_
    exact ⟨rfl, T, by rw [bothS_err rfl]; exact SW.refl HA.out⟩
  | ok bs =>
    simp only [werr_ok] at k2
    clear h4 h5 h
    obtain ⟨r, hr⟩ : ∃ r : Wr, (value x) = r := ⟨_, rfl⟩
    rw [hr] at hl ⊢
    have HR := Lib.hid hr; clear hr
    have HL := Lib.hid hl; clear hl
    go_enter Tryz.func60, Tryz.ntmps60
    go_wp2_with fail
    refine (value_any HP0.out.1 HP0.out.2 r HR.out).mono ?_
    rintro e w1 ⟨A2, n2, c2, rfl, ho, hb⟩
    have HSTW := Lib.hid ((SW.refl HA.out).after hb)
    obtain ⟨A, n, c, bs', h1, h2, h3, h4, h5⟩ := HSTW.out.at'.ex
    have hb' : bs' = bs := h4 bs rfl
    subst hb'
    have HO := Lib.hid h1; clear h1
    have HB := Lib.hid h2; clear h2
    have H3 := Lib.hid h3; clear h3
    clear h4 h5
    have c0 := HB.out.c 0 _ rfl
    have c1' := HB.out.c 1 _ rfl
    have f1 := HB.out.fr 1
    have f2 := HB.out.fr 2
    have q := HB.out.lt
    have HSL := Lib.hid ho.sl
    clear ho
    have hlen : bs'.length + (wval r).length ≤ 140737488355328 := by have h1 := HL.out; have e1 : lenS (.ok bs') = bs'.length := rfl; rw [lenS_val]; omega
    have HLEN := Lib.hid hlen; clear hlen
    clear k0 k1 k2 hb
    go_wp2_with (first | (at_builtin; refine wpList_appw rfl _ _ rfl 0 _ _ _ bs' rfl HO.out.1 _ _ _ _ (wval r) rfl HSL.out (by exact HLEN.out) (Nat.zero_le _) ?_; intro A5 m5 d5 w5 g1 g2 g3; have HG1 := Lib.hid g1; have HG2 := Lib.hid g2; have HG3 := Lib.hid g3; have HB5 := Lib.hid (goesBx.keep (Bx.mk (S := fun b => b = X) rfl HB.out.lt HB.out.c HB.out.fr) g2.size fun b e hl => g2.block b hl fun e2 => H3.out b e2.symm e); have c05 := HB5.out.c 0 _ rfl; have c15 := HB5.out.c 1 _ rfl; have c25 := HB5.out.c 2 _ rfl; have f15 := HB5.out.fr 1; have f25 := HB5.out.fr 2; have q5 := HB5.out.lt; clear g1 g2 g3 c0 c1' f1 f2))
    first | refine bodyPost_end (results_none rfl _ _ _) rfl ?_ | refine bodyPost_ret (v := .tuple #[]) (results_none rfl _ _ _) rfl ?_
    obtain ⟨T', hT⟩ := StW.push (r := r) HSTW.out.at'.lt HSTW.out.at'.mem HO.out HB5.out H3.out HG1.out HG2.out HG3.out (fun b e => by rw [e]; rfl) (fun e he => spz_value (HR.out.trans he))
    exact ⟨rfl, T', HSTW.out.trans hT⟩

set_option maxHeartbeats 4000000 in
set_option maxRecDepth 100000 in
theorem spw_inet {T : Nat → Prop} {w : World} {X P i : Nat} {s : Wr} {S : Nat → Prop} {A1 : Option Addr} {n1 c1 : Nat} {x : Adr} (h : StW T w X s) (hc0 : w.cell? ⟨P, i, none⟩ = some (.slice A1 n1 c1)) (hc1 : w.cell? ⟨P, i + 1, none⟩ = some (.int .u32 ((x.port : Nat) : Int))) (hx : Sl S w A1 n1 c1 x.addr ∧ x.port < 4294967296) (hl : lenS s + lenS (inet x) ≤ 140737488355328) :
    Calls Tryz.prog 91 #[.pointer (some ⟨X, 0, none⟩), .pointer (some ⟨P, i, none⟩), .func (.func 92) #[] #[], .func (.func 93) #[] #[]] w fun e w' => e = .returned (.tuple #[]) ∧ ∃ T', SW w T w' X (bothW s (inet x)) T' := by
  have HA := Lib.hid h
  have HP0 := Lib.hid hx; clear hx
  obtain ⟨A, n, c, bs0, h1, h2, h3, h4, h5⟩ := h.ex
  have HBX := Lib.hid h2; clear h2
  have k0 := HBX.out.c 0 _ rfl
  have k1 := HBX.out.c 1 _ rfl
  have k2 := HBX.out.c 2 _ rfl
  clear h1 h3
  cases s with
  | error e =>
    have hne : (e != 0) = true := bne_iff_ne.2 (h5 e rfl)
    simp only [werr_error] at k2
    clear h4 h5 h
    go_enter Tryz.func91, Tryz.ntmps91
    go_wp2_with fail
    refine bodyPost_ret (v := .tuple #[]) (results_none rfl _ _ _) rfl ?_
    exact ⟨rfl, T, by rw [bothS_err rfl]; exact SW.refl HA.out⟩
  | ok bs =>
    simp only [werr_ok] at k2
    clear h4 h5 h
    obtain ⟨r, hr⟩ : ∃ r : Wr, (inet x) = r := ⟨_, rfl⟩
    rw [hr] at hl ⊢
    have HR := Lib.hid hr; clear hr
    have HL := Lib.hid hl; clear hl
    go_enter Tryz.func91, Tryz.ntmps91
    go_wp2_with fail
    refine (inet_any HP0.out.1 HP0.out.2 r HR.out).mono ?_
    rintro e w1 ⟨A2, n2, c2, rfl, ho, hb⟩
    have HSTW := Lib.hid ((SW.refl HA.out).after hb)
    obtain ⟨A, n, c, bs', h1, h2, h3, h4, h5⟩ := HSTW.out.at'.ex
    have hb' : bs' = bs := h4 bs rfl
    subst hb'
    have HO := Lib.hid h1; clear h1
    have HB := Lib.hid h2; clear h2
    have H3 := Lib.hid h3; clear h3
    clear h4 h5
    have c0 := HB.out.c 0 _ rfl
    have c1' := HB.out.c 1 _ rfl
    have f1 := HB.out.fr 1
    have f2 := HB.out.fr 2
    have q := HB.out.lt
    have HSL := Lib.hid ho.sl
    clear ho
    have hlen : bs'.length + (wval r).length ≤ 140737488355328 := by have h1 := HL.out; have e1 : lenS (.ok bs') = bs'.length := rfl; rw [lenS_val]; omega
    have HLEN := Lib.hid hlen; clear hlen
    clear k0 k1 k2 hb
    go_wp2_with (first | (at_builtin; refine wpList_appw rfl _ _ rfl 0 _ _ _ bs' rfl HO.out.1 _ _ _ _ (wval r) rfl HSL.out (by exact HLEN.out) (Nat.zero_le _) ?_; intro A5 m5 d5 w5 g1 g2 g3; have HG1 := Lib.hid g1; have HG2 := Lib.hid g2; have HG3 := Lib.hid g3; have HB5 := Lib.hid (goesBx.keep (Bx.mk (S := fun b => b = X) rfl HB.out.lt HB.out.c HB.out.fr) g2.size fun b e hl => g2.block b hl fun e2 => H3.out b e2.symm e); have c05 := HB5.out.c 0 _ rfl; have c15 := HB5.out.c 1 _ rfl; have c25 := HB5.out.c 2 _ rfl; have f15 := HB5.out.fr 1; have f25 := HB5.out.fr 2; have q5 := HB5.out.lt; clear g1 g2 g3 c0 c1' f1 f2))
    first | refine bodyPost_end (results_none rfl _ _ _) rfl ?_ | refine bodyPost_ret (v := .tuple #[]) (results_none rfl _ _ _) rfl ?_
    obtain ⟨T', hT⟩ := StW.push (r := r) HSTW.out.at'.lt HSTW.out.at'.mem HO.out HB5.out H3.out HG1.out HG2.out HG3.out (fun b e => by rw [e]; rfl) (fun e he => spz_inet (HR.out.trans he))
    exact ⟨rfl, T', HSTW.out.trans hT⟩

set_option maxHeartbeats 4000000 in
set_option maxRecDepth 100000 in
theorem spw_all {T : Nat → Prop} {w : World} {X P i : Nat} {s : Wr} {S : Nat → Prop} {A1 : Option Addr} {n1 c1 : Nat} {x : B} (h : StW T w X s) (hc0 : w.cell? ⟨P, i, none⟩ = some (.slice A1 n1 c1)) (hx : Sl S w A1 n1 c1 x) (hl : lenS s + lenS (.ok x) ≤ 140737488355328) :
    Calls Tryz.prog 86 #[.pointer (some ⟨X, 0, none⟩), .pointer (some ⟨P, i, none⟩), .func (.func 87) #[] #[], .func (.func 89) #[] #[]] w fun e w' => e = .returned (.tuple #[]) ∧ ∃ T', SW w T w' X (bothW s (.ok x)) T' := by
  have HA := Lib.hid h
  have HP0 := Lib.hid hx; clear hx
  obtain ⟨A, n, c, bs0, h1, h2, h3, h4, h5⟩ := h.ex
  have HBX := Lib.hid h2; clear h2
  have k0 := HBX.out.c 0 _ rfl
  have k1 := HBX.out.c 1 _ rfl
  have k2 := HBX.out.c 2 _ rfl
  clear h1 h3
  cases s with
  | error e =>
    have hne : (e != 0) = true := bne_iff_ne.2 (h5 e rfl)
    simp only [werr_error] at k2
    clear h4 h5 h
    go_enter Tryz.func86, Tryz.ntmps86
    go_wp2_with fail
    refine bodyPost_ret (v := .tuple #[]) (results_none rfl _ _ _) rfl ?_
    exact ⟨rfl, T, by rw [bothS_err rfl]; exact SW.refl HA.out⟩
  | ok bs =>
    simp only [werr_ok] at k2
    clear h4 h5 h
    obtain ⟨r, hr⟩ : ∃ r : Wr, (.ok x) = r := ⟨_, rfl⟩
    rw [hr] at hl ⊢
    have HR := Lib.hid hr; clear hr
    have HL := Lib.hid hl; clear hl
    go_enter Tryz.func86, Tryz.ntmps86
    go_wp2_with fail
    refine (stw_all (A := A1) (m := n1) (c := c1) _).mono ?_
    rintro e w1 ⟨rfl, hb⟩
    have HSTW := Lib.hid ((SW.refl HA.out).after hb)
    obtain ⟨A, n, c, bs', h1, h2, h3, h4, h5⟩ := HSTW.out.at'.ex
    have hb' : bs' = bs := h4 bs rfl
    subst hb'
    have HO := Lib.hid h1; clear h1
    have HB := Lib.hid h2; clear h2
    have H3 := Lib.hid h3; clear h3
    clear h4 h5
    have c0 := HB.out.c 0 _ rfl
    have c1' := HB.out.c 1 _ rfl
    have f1 := HB.out.fr 1
    have f2 := HB.out.fr 2
    have q := HB.out.lt
    have HSL := Lib.hid (HP0.out.after hb)
    have hlen : bs'.length + x.length ≤ 140737488355328 := by have h1 := HL.out; have e1 : lenS (.ok bs') = bs'.length := rfl; rw [← HR.out] at h1; have e2 : lenS (.ok x) = x.length := rfl; omega
    have HLEN := Lib.hid hlen; clear hlen
    clear k0 k1 k2 hb
    go_wp2_with (first | (at_builtin; refine wpList_appw rfl _ _ rfl 0 _ _ _ bs' rfl HO.out.1 _ _ _ _ x rfl HSL.out (by exact HLEN.out) (Nat.zero_le _) ?_; intro A5 m5 d5 w5 g1 g2 g3; have HG1 := Lib.hid g1; have HG2 := Lib.hid g2; have HG3 := Lib.hid g3; have HB5 := Lib.hid (goesBx.keep (Bx.mk (S := fun b => b = X) rfl HB.out.lt HB.out.c HB.out.fr) g2.size fun b e hl => g2.block b hl fun e2 => H3.out b e2.symm e); have c05 := HB5.out.c 0 _ rfl; have c15 := HB5.out.c 1 _ rfl; have c25 := HB5.out.c 2 _ rfl; have f15 := HB5.out.fr 1; have f25 := HB5.out.fr 2; have q5 := HB5.out.lt; clear g1 g2 g3 c0 c1' f1 f2))
    first | refine bodyPost_end (results_none rfl _ _ _) rfl ?_ | refine bodyPost_ret (v := .tuple #[]) (results_none rfl _ _ _) rfl ?_
    obtain ⟨T', hT⟩ := StW.push (r := r) HSTW.out.at'.lt HSTW.out.at'.mem HO.out HB5.out H3.out HG1.out HG2.out HG3.out (fun b e => by have := HR.out; rw [e] at this; injection this) (fun e he => spz_ok (HR.out.trans he))
    exact ⟨rfl, T', HSTW.out.trans (by rw [← HR.out] at hT ⊢; exact hT)⟩
end Go.Proofs.Sb
