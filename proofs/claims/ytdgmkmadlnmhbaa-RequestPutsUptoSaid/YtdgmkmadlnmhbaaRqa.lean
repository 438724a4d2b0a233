/- The writer of request: words for what it owns; put, number, count, short, must. Conditions: sums of lengths up to 2^47. (written by gen_rqput.py) -/
import Derived.Test.YtdgmkmadlnmhbaaBoxl
import Derived.Test.YtdgmkmadlnmhbaaRqs
set_option linter.unusedVariables false
set_option linter.unusedSimpArgs false
namespace Sb
theorem bothQ_nil (s : Wr) : bothW s (.ok []) = s := by cases s <;> simp [bothW]
theorem bothW_err {s : Wr} {e : Int} (h : s = .error e) (r : Wr) : bothW s r = .error e := by subst h; rfl
theorem bothW_assoc (a b c : Wr) : bothW (bothW a b) c = bothW a (bothW b c) := by cases a <;> cases b <;> cases c <;> simp [bothW]
def lenW : Wr → Nat | .ok b => b.length | .error _ => 0
theorem lenW_both (s r : Wr) : lenW (bothW s r) ≤ lenW s + lenW r := by cases s <;> cases r <;> simp [bothW, lenW]
theorem lenW_val (r : Wr) : (wval r).length = lenW r := by cases r <;> rfl
/-- how many there are, as a short -/
def cntQ (n : Nat) : Wr := if 65535 < n then .error 12 else .ok (enc 2 n)
def mustQ (is : Bool) : Wr := if is then .ok [] else .error 1
theorem cnt_len (n : Nat) : lenW (cntQ n) ≤ 2 := by unfold cntQ; split <;> simp [lenW, enc_length]
theorem must_len (b : Bool) : lenW (mustQ b) = 0 := by cases b <;> rfl
end Sb
namespace Go.Proofs.Sb
open Go.RowKit _root_.Sb

/-- the writer's box Y and its row, in blocks of T, in state s -/
structure WrAt (T : Nat → Prop) (w : World) (Y : Nat) (s : Wr) : Prop where
  mem : T Y
  lt : ∀ b, T b → b < w.heap.size
  ex : ∃ A n c bs, OwnB T w A n c bs ∧ Bx T w Y [.slice A n c, .int .i64 (werr s)] ∧ (∀ b, A.map (·.block) = some b → b ≠ Y) ∧ (∀ b, s = .ok b → bs = b) ∧ (∀ e, s = .error e → e ≠ 0)
/-- how far a walk has come from the world W on, where the writer owned T: it owns T' now -/
structure WS (W : World) (T : Nat → Prop) (w : World) (Y : Nat) (s : Wr) (T' : Nat → Prop) : Prop where
  at' : WrAt T' w Y s
  fr : Fr T W w
  own : ∀ b, T' b → T b ∨ W.heap.size ≤ b
section
variable {W w w' : World} {T T' T2 : Nat → Prop} {Y : Nat} {s s' : Wr}
theorem WrAt.after (h : WrAt T w Y s) (hb : Below w.heap.size w w') : WrAt T w' Y s := by
  obtain ⟨A, n, c, bs, h1, h2, h3, h4, h5⟩ := h.ex
  exact ⟨h.mem, fun b hb2 => Nat.lt_of_lt_of_le (h.lt b hb2) hb.size, A, n, c, bs, h1.after hb, h2.after hb, h3, h4, h5⟩
theorem WS.refl (h : WrAt T w Y s) : WS w T w Y s T := ⟨h, .refl _ _, fun b h => .inl h⟩
theorem WS.trans (h : WS W T w Y s T') (k : WS w T' w' Y s' T2) : WS W T w' Y s' T2 :=
  ⟨k.at', h.fr.seq k.fr fun x hx hT => by rcases h.own x hT with h1 | h1; exact h1; omega, fun b hb => by
    rcases k.own b hb with h1 | h1
    · exact h.own b h1
    · have := h.fr.size; right; omega⟩
theorem WS.after (h : WS W T w Y s T') (hb : Below w.heap.size w w') : WS W T w' Y s T' :=
  ⟨h.at'.after hb, h.fr.seq (.of_below hb) fun x hx hT => by rcases h.own x hT with h1 | h1; exact h1; omega, h.own⟩
theorem WS.size (h : WS W T w Y s T') : W.heap.size ≤ w.heap.size := h.fr.size
/-- what was read before is read -/
theorem WS.keep {F : (Nat → Prop) → World → Prop} (h : WS W T w Y s T') (G : Goes F) {S : Nat → Prop} (hF : F S W) (hS : ∀ b, S b → ¬ T b) : F S w := G.keep hF h.fr.size fun b hs hb => h.fr.block b hb (hS b hs)
/-- a step behind a call of a method of the writer -/
theorem WS.kept {F : (Nat → Prop) → World → Prop} (k : WS w T' w' Y s' T2) (G : Goes F) {S : Nat → Prop} (hF : F S w) (hS : ∀ b, S b → ¬ T' b) : F S w' := k.keep G hF hS
theorem WS.not (h : WS W T w Y s T') {b : Nat} (hb : b < W.heap.size) (hT : ¬ T b) : ¬ T' b := fun e => by rcases h.own b e with h1 | h1; exact hT h1; omega
theorem WS.lt (h : WS W T w Y s T') {b : Nat} (hb : T' b) : b < w.heap.size := h.at'.lt b hb
theorem WS.as (h : WS W T w Y s T') (e : s = s') : WS W T w Y s' T' := e ▸ h
theorem WS.ne (h : WS W T w Y s T') {b : Nat} (hb : w.heap.size ≤ b) : ¬ T' b := fun e => by have := h.lt e; omega
end

set_option maxHeartbeats 8000000 in
set_option maxRecDepth 100000 in
theorem wput_any {S T : Nat → Prop} {w : World} {Y : Nat} {s : Wr} {A2 : Option Addr} {n2 c2 : Nat} {cs : B} {e : Int} (h : WrAt T w Y s) (hs : Sl S w A2 n2 c2 cs) (r : Wr) (hr : e = werr r) (hv : ∀ b, r = .ok b → cs = b) (hne : ∀ x, r = .error x → x ≠ 0) (hl : lenW s + cs.length ≤ 140737488355328) :
    Calls Try.prog 17 #[.pointer (some ⟨Y, 0, none⟩), .slice A2 n2 c2, .int .i64 e] w fun e w' => e = .returned (.tuple #[]) ∧ ∃ T', WS w T w' Y (bothW s r) T' := by
  have HA := Lib.hid h; clear h
  have H2 := Lib.hid hs; clear hs
  have HR := Lib.hid hr; clear hr
  have HV := Lib.hid hv; clear hv
  have HN := Lib.hid hne; clear hne
  obtain ⟨A, n, c, bs, h1, h2, h3, h4, h5⟩ := HA.out.ex
  have HO := Lib.hid h1; clear h1
  have HB := Lib.hid h2; clear h2
  have H3 := Lib.hid h3; clear h3
  have q := HB.out.lt
  have c0 := HB.out.c 0 _ rfl
  have c1 := HB.out.c 1 _ rfl
  have f0 := HB.out.fr 0
  have f1 := HB.out.fr 1
  cases s with
  | error x =>
    have hx : x ≠ 0 := h5 x rfl
    simp only [werr_error] at c1
    clear h4 h5
    have hx2 : (x != 0) = true := bne_iff_ne.2 hx
    go_enter Try.func17, Try.ntmps17
    go_wp2_with fail
    refine bodyPost_ret (v := .tuple #[]) (results_none rfl _ _ _) rfl ?_
    exact ⟨rfl, T, WS.refl HA.out⟩
  | ok b =>
    have hb : bs = b := h4 b rfl
    subst hb
    simp only [werr_ok] at c1
    clear h4 h5
    go_enter Try.func17, Try.ntmps17
    go_wp2_with (first | (at_builtin; refine wpList_appw rfl _ _ rfl 0 _ _ _ bs rfl HO.out.1 _ _ _ _ cs rfl H2.out (by exact hl) (Nat.zero_le _) ?_; intro A5 m5 d5 w5 g1 g2 g3; have HG1 := Lib.hid g1; have HG2 := Lib.hid g2; have HG3 := Lib.hid g3; have HB5 := Lib.hid (goesBx.keep (Bx.mk (S := fun b => b = Y) rfl HB.out.lt HB.out.c HB.out.fr) g2.size fun b e hl => g2.block b hl fun e2 => H3.out b e2.symm e); have c05 := HB5.out.c 0 _ rfl; have c15 := HB5.out.c 1 _ rfl; have f05 := HB5.out.fr 0; have f15 := HB5.out.fr 1; have q5 := HB5.out.lt; clear g1 g2 g3 c0 c1 f0 f1))
    refine bodyPost_end (results_none rfl _ _ _) rfl ?_
    have hg := grow2 (w := w5) Y (.slice A5 m5 d5) (.int .i64 e)
    have hz5 : w.heap.size ≤ w5.heap.size := HG2.out.size
    have hO5 : OwnB (fun b => b ≠ Y ∧ (T b ∨ (w.heap.size ≤ b ∧ b < w5.heap.size))) w5 A5 m5 d5 (bs ++ cs) := by
      refine ⟨HG1.out, fun b e => ?_⟩
      have hb5 := (HG1.out.block b e).2
      rcases HG3.out b e with h | h
      · exact ⟨H3.out b h, .inl (HO.out.2 b h)⟩
      · exact ⟨by omega, .inr ⟨h, hb5⟩⟩
    have hO6 := goesOwnB.grown hO5 hg fun b hb => hb.1
    have hB6 := (HB5.out.put 0 (.slice A5 m5 d5) (by show 0 < 2; decide)).put 1 (.int .i64 e) (by show 1 < 2; decide)
    refine ⟨rfl, fun b => T b ∨ (w.heap.size ≤ b ∧ b < w5.heap.size), ⟨.inl HA.out.mem, fun b hb => ?_, A5, m5, d5, bs ++ cs, hO6.mono fun b hb _ => hb.2, ?_, fun b e => (hO5.2 b e).1, ?_, ?_⟩, (Fr.of_grown HG2.out fun b e => HO.out.2 b e).seq (Fr.of_grown hg fun b e => by injection e with e; rw [← e]; exact HA.out.mem) (fun x hx h => h), fun b hb => by rcases hb with h | h; exact .inl h; exact .inr h.1⟩
    · have h6 : ((w5.setCell ⟨Y, 0, none⟩ (.slice A5 m5 d5)).setCell ⟨Y, 1, none⟩ (.int .i64 e)).heap.size = w5.heap.size := by simp
      rcases hb with h | h
      · have := HA.out.lt b h; omega
      · omega
    · have he : e = werr (bothW (.ok bs) r) := by rw [HR.out]; cases r <;> rfl
      rw [← he]
      exact Bx.mono hB6 fun b hb _ => by rw [hb]; exact .inl HA.out.mem
    · intro b hb
      cases r with
      | error x => cases hb
      | ok x => injection hb with hb; rw [← hb, HV.out x rfl]
    · intro x hx
      cases r with
      | error y => injection hx with hx; subst hx; exact HN.out _ rfl
      | ok y => cases hx
set_option maxRecDepth 100000 in
theorem wnumber_any {T : Nat → Prop} {w : World} {Y n : Nat} {s : Wr} {x : Int} (h : WrAt T w Y s) (h0 : 0 ≤ x) (hx : x < 18446744073709551616) (h1 : 1 ≤ n) (h8 : n ≤ 8) (hl : lenW s ≤ 140737488355000) :
    Calls Try.prog 60 #[.pointer (some ⟨Y, 0, none⟩), .int .u64 x, .int .i64 (n : Int)] w fun e w' => e = .returned (.tuple #[]) ∧ ∃ T', WS w T w' Y (bothW s (.ok (enc n x.toNat))) T' := by
  have HA := Lib.hid (WS.refl h); clear h
  have HP := Lib.hid (put_any x n w h1 h8 h0 hx)
  have hln : (enc n x.toNat).length = n := enc_length _ _
  obtain ⟨bs, hbs⟩ : ∃ bs, bs = enc n x.toNat := ⟨_, rfl⟩
  rw [← hbs] at HP hln ⊢
  clear hbs
  go_enter Try.func60, Try.ntmps60
  go_wp2_with fail
  refine HP.out.mono ?_
  rintro e w1 ⟨A, m, c, rfl, ho, hb⟩
  have HO := Lib.hid ho.slb; clear ho
  have HA1 := Lib.hid (HA.out.after hb); clear hb
  go_wp2_with fail
  refine (wput_any HA1.out.at' HO.out (.ok bs) (by rfl) (fun b e => by injection e) (fun x e => by cases e) (by omega)).mono ?_
  rintro e w2 ⟨rfl, T2, hk⟩
  have HK := Lib.hid (HA1.out.trans hk); clear hk
  go_wp2_with fail
  refine bodyPost_end (results_none rfl _ _ _) rfl ?_
  exact ⟨rfl, T2, HK.out⟩
set_option maxRecDepth 100000 in
theorem wcount_any {T : Nat → Prop} {w : World} {Y n : Nat} {s : Wr} (h : WrAt T w Y s) (hn : n ≤ 9223372036854775807) (hl : lenW s ≤ 140737488355000) :
    Calls Try.prog 62 #[.pointer (some ⟨Y, 0, none⟩), .int .i64 (n : Int)] w fun e w' => e = .returned (.tuple #[]) ∧ ∃ T', WS w T w' Y (bothW s (cntQ n)) T' := by
  have HA := Lib.hid (WS.refl h); clear h
  by_cases hc : 65535 < n
  · have e1 : cntQ n = .error 12 := by unfold cntQ; rw [if_pos hc]
    rw [e1]
    clear e1
    go_enter Try.func62, Try.ntmps62
    go_wp2_with fail
    refine (wput_any HA.out.at' (Sl.nil (S := fun _ => False)) (.error 12) (by rfl) (fun b e => by cases e) (fun x e => by injection e with e; omega) (by simp; omega)).mono ?_
    rintro e w2 ⟨rfl, T2, hk⟩
    have HK := Lib.hid (HA.out.trans hk); clear hk
    have hlk : lenW (bothW s (.error 12)) ≤ 140737488355000 := by have := lenW_both s (.error 12); have : lenW (.error 12) = 0 := rfl; omega
    go_wp2_with fail
    refine (wnumber_any (n := 2) HK.out.at' (by omega) (by omega) (by omega) (by omega) hlk).mono ?_
    rintro e w3 ⟨rfl, T3, hk⟩
    have HK3 := Lib.hid (HK.out.trans hk); clear hk
    have e3 : bothW (bothW s (.error 12)) (.ok (enc 2 (n : Int).toNat)) = bothW s (.error 12) := by cases s <;> rfl
    go_wp2_with fail
    refine bodyPost_end (results_none rfl _ _ _) rfl ?_
    exact ⟨rfl, T3, HK3.out.as (by exact e3)⟩
  · have e1 : cntQ n = .ok (enc 2 n) := by unfold cntQ; rw [if_neg hc]
    rw [e1]
    clear e1
    go_enter Try.func62, Try.ntmps62
    go_wp2_with fail
    refine (wnumber_any (n := 2) HA.out.at' (by omega) (by omega) (by omega) (by omega) hl).mono ?_
    rintro e w3 ⟨rfl, T3, hk⟩
    have HK3 := Lib.hid (HA.out.trans hk); clear hk
    go_wp2_with fail
    refine bodyPost_end (results_none rfl _ _ _) rfl ?_
    exact ⟨rfl, T3, HK3.out⟩
set_option maxRecDepth 100000 in
theorem wmust_any {T : Nat → Prop} {w : World} {Y : Nat} {s : Wr} {is : Bool} (h : WrAt T w Y s) (hl : lenW s ≤ 140737488355000) :
    Calls Try.prog 59 #[.pointer (some ⟨Y, 0, none⟩), .bool is] w fun e w' => e = .returned (.tuple #[]) ∧ ∃ T', WS w T w' Y (bothW s (mustQ is)) T' := by
  have HA := Lib.hid (WS.refl h); clear h
  cases is with
  | true =>
    have e1 : bothW s (mustQ true) = s := bothQ_nil s
    rw [e1]
    clear e1
    go_enter Try.func59, Try.ntmps59
    go_wp2_with fail
    refine bodyPost_end (results_none rfl _ _ _) rfl ?_
    exact ⟨rfl, T, HA.out⟩
  | false =>
    go_enter Try.func59, Try.ntmps59
    go_wp2_with fail
    refine (wput_any HA.out.at' (Sl.nil (S := fun _ => False)) (.error 1) (by rfl) (fun b e => by cases e) (fun x e => by injection e with e; omega) (by simp; omega)).mono ?_
    rintro e w2 ⟨rfl, T2, hk⟩
    have HK := Lib.hid (HA.out.trans hk); clear hk
    go_wp2_with fail
    refine bodyPost_end (results_none rfl _ _ _) rfl ?_
    exact ⟨rfl, T2, HK.out⟩
theorem text_both (s : Wr) (bs : B) : bothW (bothW s (cntQ bs.length)) (.ok bs) = bothW s (text bs) := by
  rw [bothW_assoc]
  unfold cntQ text
  by_cases h : 65535 < bs.length
  · rw [if_pos h, if_pos (by omega)]; rfl
  · rw [if_neg h, if_neg (by omega)]; rfl
set_option maxRecDepth 100000 in
theorem wshort_any {S T : Nat → Prop} {w : World} {Y : Nat} {s : Wr} {A : Option Addr} {n c : Nat} {bs : B} (h : WrAt T w Y s) (hs : Sl S w A n c bs) (hS : ∀ b, S b → ¬ T b) (hl : lenW s + bs.length ≤ 140737488354000) :
    Calls Try.prog 21 #[.pointer (some ⟨Y, 0, none⟩), .slice A n c] w fun e w' => e = .returned (.tuple #[]) ∧ ∃ T', WS w T w' Y (bothW s (text bs)) T' := by
  have HA := Lib.hid (WS.refl h); clear h
  have hn : n = bs.length := hs.len
  have H2 := Lib.hid hs; clear hs
  have HS := Lib.hid hS; clear hS
  have HN := Lib.hid hn; clear hn
  have hn2 : n ≤ 140737488354000 := by rw [HN.out]; omega
  go_enter Try.func21, Try.ntmps21
  go_wp2_with fail
  refine (wcount_any (n := n) HA.out.at' (by omega) (by omega)).mono ?_
  rintro e w2 ⟨rfl, T2, hk⟩
  have H3 := Lib.hid (hk.kept goesSl H2.out HS.out)
  have HK := Lib.hid (HA.out.trans hk); clear hk
  have hlk : lenW (bothW s (cntQ n)) + bs.length ≤ 140737488355000 := by have := lenW_both s (cntQ n); have := cnt_len n; omega
  go_wp2_with fail
  refine (wput_any HK.out.at' H3.out (.ok bs) (by rfl) (fun b e => by injection e) (fun x e => by cases e) (by omega)).mono ?_
  rintro e w3 ⟨rfl, T3, hk⟩
  have HK3 := Lib.hid (HK.out.trans hk); clear hk
  have e3 : bothW (bothW s (cntQ n)) (.ok bs) = bothW s (text bs) := by rw [HN.out]; exact text_both s bs
  have HE := Lib.hid e3; clear e3
  go_wp2_with fail
  refine bodyPost_end (results_none rfl _ _ _) rfl ?_
  exact ⟨rfl, T3, HK3.out.as HE.out⟩
end Go.Proofs.Sb
