/- Plain mathematics of bodies of replies: what is put is got; bounds of what is got. Conditions: the lengths told in RpB. -/
import Derived.Test.YtfeeeighafflnaaGreatStn
set_option linter.unusedVariables false
set_option linter.unusedSimpArgs false
namespace Sb
open Go.Proofs.Sb
theorem strOk_nil : strOk [] := Nat.zero_le _
/-! bounds of what is got -/
def Gb {α : Type} (L : Nat) (g : B → Res α) (P : α → Prop) : Prop := ∀ b x r, b.length ≤ L → g b = .ok (x, r) → P x ∧ r.length ≤ L
section
variable {α β : Type} {L : Nat} {g : B → Res α} {P : α → Prop} {Q : β → Prop}
theorem Gb.bind {f : α → B → Res β} (G : Gb L g P) (F : ∀ a, P a → Gb L (f a) Q) : Gb L (fun b => bindR (g b) f) Q := by
  intro b x r hb h
  obtain ⟨a, b1, h1, h2⟩ := bindI h
  obtain ⟨hp, hl⟩ := G b a b1 hb h1
  exact F a hp b1 x r hl h2
theorem Gb.pure {x : β} (h : Q x) : Gb L (fun b => (.ok (x, b) : Res β)) Q := by
  intro b y r hb h2
  obtain ⟨rfl, rfl⟩ := pureI h2
  exact ⟨h, hb⟩
theorem Gb.err (e : Int) : Gb L (fun _ => (.error e : Res β)) Q := fun _ _ _ _ h => by cases h
theorem Gb.ite {c : Prop} [Decidable c] {f h : B → Res β} (F : Gb L f Q) (H : Gb L h Q) : Gb L (fun b => if c then f b else h b) Q := by
  by_cases hc : c
  · simp only [if_pos hc]; exact F
  · simp only [if_neg hc]; exact H
theorem Gb.imp {P' : α → Prop} (G : Gb L g P) (h : ∀ x, P x → P' x) : Gb L g P' := fun b x r hb hg => ⟨h x (G b x r hb hg).1, (G b x r hb hg).2⟩
theorem gbMs (G : Gb L g P) : ∀ n, Gb L (getsM g n) (fun l => (∀ x ∈ l, P x) ∧ l.length = n)
  | 0 => fun b x r hb h => by obtain ⟨rfl, rfl⟩ := pureI h; exact ⟨⟨fun x hx => by (cases hx), rfl⟩, hb⟩
  | n + 1 => fun b x r hb h => by
    unfold getsM at h
    cases hg : g b with
    | error e => rw [hg] at h; cases h
    | ok p =>
      obtain ⟨a, b1⟩ := p
      rw [hg] at h
      simp only at h
      obtain ⟨ha, hl⟩ := G b a b1 hb hg
      cases hm : getsM g n b1 with
      | error e => rw [hm] at h; cases h
      | ok q =>
        obtain ⟨l, b2⟩ := q
        rw [hm] at h
        simp only at h
        obtain ⟨rfl, rfl⟩ := pureI h
        obtain ⟨⟨h1, h2⟩, h3⟩ := gbMs G n b1 l b2 hl hm
        refine ⟨⟨fun x hx => ?_, by rw [List.length_cons, h2]⟩, h3⟩
        rcases List.mem_cons.1 hx with rfl | hx
        · exact ha
        · exact h1 x hx
end
section
variable {L : Nat}
theorem gbN (k : Nat) : Gb L (getN k) (· < 256 ^ k) := fun b x r hb h => ⟨(getN_ok h).2.2.2, by rw [(getN_ok h).2.2.1, List.length_drop]; omega⟩
theorem gbText : Gb L getText (fun x => strOk x ∧ x.length ≤ 65535) := fun b x r hb h => by
  obtain ⟨h1, h2, _⟩ := getText_ok h
  exact ⟨⟨by unfold strOk; omega, h1⟩, by omega⟩
theorem gbNum : Gb L getNum i32 := fun b x r hb h => by
  obtain ⟨_, h2, h3, h4, _⟩ := getNum_ok h
  exact ⟨⟨h3, h4⟩, by rw [h2, List.length_drop]; omega⟩
theorem gbCons : Gb L getCons (· < 65536) := by
  rw [eqCons]
  exact (gbN 2).bind fun n hn => .ite (.err _) (.pure (by simpa using hn))
theorem gbL {α : Type} {g : B → Res α} {P : α → Prop} (G : Gb L g P) : Gb L (getL g) (fun l => (∀ x ∈ l, P x) ∧ l.length < 65536) := by
  rw [eqL]
  exact (gbN 2).bind fun n hn => (gbMs G n).imp fun l h => ⟨h.1, by rw [h.2]; simpa using hn⟩
theorem gbTexts : Gb L getTexts (fun l => lenS (texts l) ≤ L) := fun b x r hb h => by
  obtain ⟨y, h1, rfl⟩ := texts_fore _ _ _ h
  rw [List.length_append] at hb
  exact ⟨by show lenS (texts x) ≤ L; rw [h1]; show y.length ≤ L; omega, by omega⟩
theorem gbWord (ws : List B) : Gb L (wordR ws) (fun x => strOk x) := gbText.bind fun s h => .ite (.pure h.1) (.err _)
theorem gbMulti : Gb L multiR (fun y => ∀ b, multiW y = .ok b → b.length ≤ L) := fun b x r hb h => by
  obtain ⟨y, h1', rfl⟩ := (both_fore text_fore texts_fore : Fore multiW multiR) _ _ _ h
  have h1 : multiW x = .ok y := h1'
  rw [List.length_append] at hb
  exact ⟨fun c hc => by rw [h1] at hc; injection hc with hc; subst hc; omega, by omega⟩
theorem gbInet : Gb L getInet (fun a => a.addr.length ≤ 140737488355328 ∧ a.port < 4294967296) := fun b x r hb h => by
  rw [eqInet] at h
  obtain ⟨n, b1, h1, h⟩ := bindI h
  obtain ⟨hn, hl1⟩ := gbN (L := L) 1 _ _ _ hb h1
  split at h
  · obtain ⟨a, b2, h2, h⟩ := bindI h
    obtain ⟨p, b3, h3, h⟩ := bindI h
    obtain ⟨rfl, rfl⟩ := pureI h
    obtain ⟨rfl, h2l⟩ := takeN_fore h2
    rw [List.length_append] at hl1
    obtain ⟨hp, hl3⟩ := gbN (L := L) 4 _ _ _ (by omega) h3
    exact ⟨⟨by show a.length ≤ _; simp only [Nat.reducePow] at hn; omega, by simpa using hp⟩, hl3⟩
  · cases h
theorem gbTail (t : B) : Gb L (tailR t) (fun p => strOk p.1 ∧ (2 ≤ L → lenS (texts p.2) ≤ L)) := by
  have hz : 2 ≤ L → lenS (texts []) ≤ L := fun h => h
  exact .ite (gbText.bind fun n hn => gbTexts.bind fun a ha => .pure ⟨hn.1, fun _ => ha⟩) (.ite (gbText.bind fun n hn => .pure ⟨hn.1, hz⟩) (.pure ⟨strOk_nil, hz⟩))
theorem gbChg : Gb L chgR (fun c => ChgB c ∧ (2 ≤ L → lenS (texts c.args) ≤ L)) :=
  (gbWord _).bind fun a ha => (gbWord _).bind fun t ht => gbText.bind fun s hs => (gbTail t).bind fun p hp => .pure ⟨⟨ha, ht, hs.1, hp.1⟩, hp.2⟩
theorem i32_0 : i32 0 := by unfold i32; omega
theorem fltB_of {c : Nat} {t : B} (hc : c < 4294967296) (ht : strOk t) : FltB (Flt.of c t) := ⟨hc, ht, (by decide : (0 : Nat) < 65536), i32_0, i32_0, i32_0, (by decide : (0 : Nat) < 256), strOk_nil, strOk_nil, strOk_nil, strOk_nil⟩
def FltQ (L : Nat) (f : Flt) : Prop := FltB f ∧ (2 ≤ L → lenS (texts f.args) ≤ L)
theorem gbFltT {c : Nat} {t : B} (hc : c < 4294967296) (ht : strOk t) : Gb L (fltTR c t) (FltQ L) := by
  have hz : 2 ≤ L → lenS (texts []) ≤ L := fun h => h
  have z := fltB_of hc ht
  exact .ite (gbCons.bind fun l hl => gbNum.bind fun n hn => gbNum.bind fun r hr => .pure ⟨{ z with level := hl, needed := hn, received := hr }, hz⟩)
    (.ite (gbCons.bind fun l hl => gbNum.bind fun r hr => gbNum.bind fun n hn => gbText.bind fun w hw => .pure ⟨{ z with level := hl, needed := hn, received := hr, write := hw.1 }, hz⟩)
    (.ite (gbCons.bind fun l hl => gbNum.bind fun r hr => gbNum.bind fun n hn => (gbN 1).bind fun d hd => .pure ⟨{ z with level := hl, needed := hn, received := hr, data := hd }, hz⟩)
    (.ite (gbCons.bind fun l hl => gbNum.bind fun r hr => gbNum.bind fun n hn => gbNum.bind fun f hf => (gbN 1).bind fun d hd => .pure ⟨{ z with level := hl, needed := hn, received := hr, failures := hf, data := hd }, hz⟩)
    (.ite (gbCons.bind fun l hl => gbNum.bind fun r hr => gbNum.bind fun n hn => gbNum.bind fun f hf => gbText.bind fun w hw => .pure ⟨{ z with level := hl, needed := hn, received := hr, failures := hf, write := hw.1 }, hz⟩)
    (.ite (gbText.bind fun s hs => gbText.bind fun n hn => gbTexts.bind fun a ha => .pure ⟨{ z with space := hs.1, name := hn.1 }, fun _ => ha⟩)
    (.ite (gbText.bind fun s hs => gbText.bind fun n hn => .pure ⟨{ z with space := hs.1, name := hn.1 }, hz⟩)
    (.ite (gbText.bind fun i hi => .pure ⟨{ z with ident := hi.1 }, hz⟩) (.pure ⟨z, hz⟩))))))))
theorem gbFlt : Gb L fltR (FltQ L) := (gbN 4).bind fun c hc => gbText.bind fun t ht => gbFltT (by simpa using hc) ht.1
theorem chgB_none : ChgB Chg.none := ⟨strOk_nil, strOk_nil, strOk_nil, strOk_nil⟩
theorem rpB_of {op : Nat} (h : op < 256) : RpB (Rp.of op) :=
  ⟨h, fltB_of (c := 0) (t := []) (by decide) strOk_nil, strOk_nil, strOk_nil, strOk_nil, (by decide : (0 : Nat) < 4294967296), Nat.zero_le _, chgB_none, (by decide : (0 : Nat) < 4294967296), chgB_none, strOk_nil, Nat.zero_le _, Nat.zero_le _, (by decide : (2 : Nat) ≤ 140737488000000), (by decide : (2 : Nat) ≤ 140737488000000), (by decide : (2 : Nat) ≤ 140737488000000)⟩
def RpQ (L : Nat) (x : Rp) : Prop := RpB x ∧ ∃ M, (∀ y ∈ x.support, ∀ b, multiW y = .ok b → b.length ≤ M) ∧ 2 + x.support.length * M ≤ 140737488000000
theorem rpQ_of {x : Rp} (h : RpB x) (hs : x.support = []) : RpQ L x := ⟨h, 0, by rw [hs]; exact ⟨fun y hy => by (cases hy), by decide⟩⟩
theorem gbNte : Gb L nteR (fun n => strOk n.kind ∧ strOk n.what ∧ n.addr.port < 4294967296 ∧ n.addr.addr.length ≤ 140737488355328 ∧ ChgB n.schema ∧ (2 ≤ L → lenS (texts n.schema.args) ≤ L)) :=
  (gbWord _).bind fun k hk => .ite (gbChg.bind fun c hc => .pure ⟨hk, strOk_nil, (by decide : (0 : Nat) < 4294967296), Nat.zero_le _, hc.1, hc.2⟩) ((gbWord _).bind fun w hw => gbInet.bind fun a ha => .pure ⟨hk, hw, ha.2, ha.1, chgB_none, fun h => h⟩)
theorem gbResT {k : Nat} (hk : k < 4294967296) (hL : 2 ≤ L ∧ L ≤ 2000000000) : Gb L (resTR k) (RpQ L) := by
  have z := rpB_of (op := 8) (by decide)
  have e : resTR k = fun b => if k = 1 then .ok ({ Rp.of 8 with kind := k }, b) else if k = 3 then bindR (getText b) fun s b => .ok ({ Rp.of 8 with kind := k, text := s }, b) else if k = 5 then bindR (chgR b) fun c b => .ok ({ Rp.of 8 with kind := k, change := c }, b) else if k = 4 then bindR (getText b) fun i b => bindR (allR b) fun r b => .ok ({ Rp.of 8 with kind := k, ident := i, rest := r }, b) else if k = 2 then bindR (allR b) fun r b => .ok ({ Rp.of 8 with kind := k, rest := r }, b) else .error 11 := rfl
  have ga : Gb L allR (fun r => r.length ≤ 140737488000000) := fun b x r hb h => by obtain ⟨rfl, rfl⟩ := pureI h; exact ⟨by omega, Nat.zero_le _⟩
  rw [e]
  exact .ite (.pure (rpQ_of { z with rkind := hk } rfl)) (.ite (gbText.bind fun s hs => .pure (rpQ_of { z with rkind := hk, text := hs.1 } rfl)) (.ite (gbChg.bind fun c hc => .pure (rpQ_of { z with rkind := hk, chg := hc.1, lcg := Nat.le_trans (hc.2 hL.1) (by omega) } rfl))
    (.ite (gbText.bind fun i hi => ga.bind fun r hr => .pure (rpQ_of { z with rkind := hk, ident := hi.1, rest := hr } rfl)) (.ite (ga.bind fun r hr => .pure (rpQ_of { z with rkind := hk, rest := hr } rfl)) (.err _)))))
theorem gbValue : Gb L getValue (fun v => v.bytes.length ≤ L) := fun b x r hb h => by
  obtain ⟨y, h1, rfl⟩ := value_fore _ _ _ h
  rw [List.length_append] at hb
  refine ⟨?_, by omega⟩
  rw [eqValue] at h
  obtain ⟨n, b1, g1, h⟩ := bindI h
  have q1 := (gbNum (L := L) _ _ _ (by rw [List.length_append]; exact hb) g1).2
  split at h
  · obtain ⟨rfl, rfl⟩ := pureI h; exact Nat.zero_le _
  split at h
  · obtain ⟨rfl, rfl⟩ := pureI h; exact Nat.zero_le _
  split at h
  · cases h
  obtain ⟨a, b2, g2, h⟩ := bindI h
  obtain ⟨rfl, rfl⟩ := pureI h
  obtain ⟨rfl, _⟩ := takeN_fore g2
  rw [List.length_append] at q1
  show a.length ≤ L
  omega
theorem gbRp {op : Nat} (ho : op < 256) (hL : 2 ≤ L ∧ L ≤ 2000000000) : Gb L (partsRp op) (RpQ L) := by
  have z := rpB_of ho
  refine .ite (gbFlt.bind fun f hf => .pure (rpQ_of { z with flt := hf.1, lfa := Nat.le_trans (hf.2 hL.1) (by omega) } rfl)) (.ite (.pure (rpQ_of z rfl)) (.ite (gbText.bind fun s hs => .pure (rpQ_of { z with text := hs.1 } rfl))
    (.ite ((gbL gbMulti).bind fun l hl => .pure ⟨{ z with }, L, hl.1, ?_⟩) (.ite ((gbN 4).bind fun k hk => gbResT (by simpa using hk) hL) (.ite (gbNte.bind fun n hn => .pure (rpQ_of { z with kind := hn.1, what := hn.2.1, port := hn.2.2.1, addr := hn.2.2.2.1, sch := hn.2.2.2.2.1, lsc := Nat.le_trans (hn.2.2.2.2.2 hL.1) (by omega) } rfl)) (.ite (gbValue.bind fun v hv => .pure (rpQ_of { z with token := Nat.le_trans hv (by omega) } rfl)) (.err _)))))))
  have h1 : l.length * L ≤ 65535 * 2000000000 := Nat.mul_le_mul (by have := hl.2; omega) hL.2
  show 2 + l.length * L ≤ _
  omega
end
theorem got_RpQ {op : Nat} {b : B} {x : Rp} (ho : op < 256) (hl : b.length ≤ 2000000000) (h : getRp op b = .ok x) : RpQ 2000000000 x := (gbRp ho ⟨by decide, Nat.le_refl _⟩ _ _ _ hl (getRp_parts h)).1

/-! what is put is got -/
theorem bothI {a b : Wr} {c : B} (h : bothW a b = .ok c) : ∃ x y, a = .ok x ∧ b = .ok y ∧ c = x ++ y := by
  cases a with
  | error e => cases h
  | ok x => cases b with
    | error e => cases h
    | ok y => injection h with h; exact ⟨x, y, rfl, rfl, h.symm⟩
theorem okI {a b : B} (h : (.ok a : Wr) = .ok b) : a = b := by injection h
theorem bindB {α β γ : Type} {D : α → Prop} {f : α → Wr} {g : B → Res β} {k : α → β} (H : Back D f g k) {x : α} {b r : B} (hx : D x) (hb : f x = .ok b) (m : β → B → Res γ) : bindR (g (b ++ r)) m = m (k x) r := by rw [H x b r hx hb]; rfl
theorem word_back (ws : List B) : Back (fun _ => True) (wordW ws) (wordR ws) id := by
  intro x b r _ h
  unfold wordW at h
  split at h
  · rename_i hm
    unfold wordR
    rw [bindB (text_back fun _ => True) trivial h]
    exact if_pos hm
  · cases h
theorem n_back (k : Nat) : Back (fun x => x < 256 ^ k) (fun x => (.ok (enc k x) : Wr)) (getN k) id := by
  intro x b r hx h
  obtain rfl := okI h
  exact getN_back hx
theorem num4_back : Back (fun _ => True) num4W getNum (fun i => sgn 4 (i % 4294967296).toNat) := by
  intro x b r _ h
  obtain rfl := okI h
  exact getNum_back (by omega)
/-- what is put is got, as something -/
def BackE {α β : Type} (D : α → Prop) (f : α → Wr) (g : B → Res β) (R : α → β → Prop) : Prop := ∀ x b r, D x → f x = .ok b → ∃ y, g (b ++ r) = .ok (y, r) ∧ R x y
theorem tail_backE {t : B} {p : B × List B} {b r : B} (h : tailW t p = .ok b) : ∃ y, tailR t (b ++ r) = .ok (y, r) := by
  unfold tailW at h
  unfold tailR
  split at h
  · rename_i hc
    obtain ⟨y1, y2, h1, h2, rfl⟩ := bothI h
    rw [if_pos hc, List.append_assoc, bindB (text_back fun _ => True) trivial h1, bindB texts_back trivial h2]
    exact ⟨_, rfl⟩
  · rename_i hc
    split at h
    · rename_i hd
      rw [if_neg hc, if_pos hd, bindB (text_back fun _ => True) trivial h]
      exact ⟨_, rfl⟩
    · rename_i hd
      obtain rfl := okI h
      rw [if_neg hc, if_neg hd]
      exact ⟨_, rfl⟩
theorem chg_backE {c : Chg} {b r : B} (h : chgW c = .ok b) : ∃ y, chgR (b ++ r) = .ok (y, r) := by
  unfold chgW at h
  obtain ⟨y1, b1, h1, k, e⟩ := bothI h; clear h; subst e; have h := k; clear k
  obtain ⟨y2, b2, h2, k, e⟩ := bothI h; clear h; subst e; have h := k; clear k
  obtain ⟨y3, b3, h3, k, e⟩ := bothI h; clear h; subst e; have h := k; clear k
  obtain ⟨p, hp⟩ := tail_backE (r := r) h
  unfold chgR
  rw [List.append_assoc, bindB (word_back _) trivial h1, List.append_assoc, bindB (word_back _) trivial h2, List.append_assoc, bindB (text_back fun _ => True) trivial h3]
  simp only [id]
  rw [hp]
  exact ⟨_, rfl⟩
theorem fltT_backE {f : Flt} {t b r : B} (hD : FltB f) (h : fltTW f = .ok b) : ∃ y, fltTR f.code t (b ++ r) = .ok (y, r) ∧ y.code = f.code ∧ y.text = t := by
  unfold fltTW cntsW at h
  unfold fltTR
  by_cases c1 : f.code = 4096
  · rw [if_pos c1] at h ⊢
    obtain ⟨y1, b1, h1, k, e⟩ := bothI h; clear h; subst e; have h := k; clear k
    obtain ⟨y2, b2, h2, h3, rfl⟩ := bothI h
    rw [List.append_assoc, bindB cons_back trivial h1, List.append_assoc, bindB num4_back trivial h2, bindB num4_back trivial h3]
    exact ⟨_, rfl, rfl, rfl⟩
  rw [if_neg c1] at h ⊢
  by_cases c2 : f.code = 4352
  · rw [if_pos c2] at h ⊢
    obtain ⟨y1, b1, h1, k, e⟩ := bothI h; clear h; subst e; have h := k; clear k
    obtain ⟨y2, b2, h2, k, e⟩ := bothI h; clear h; subst e; have h := k; clear k
    obtain ⟨y3, b3, h3, h4, rfl⟩ := bothI h
    rw [List.append_assoc, bindB cons_back trivial h1, List.append_assoc, bindB num4_back trivial h2, List.append_assoc, bindB num4_back trivial h3, bindB (text_back fun _ => True) trivial h4]
    exact ⟨_, rfl, rfl, rfl⟩
  rw [if_neg c2] at h ⊢
  by_cases c3 : f.code = 4608
  · rw [if_pos c3] at h ⊢
    obtain ⟨y1, b1, h1, k, e⟩ := bothI h; clear h; subst e; have h := k; clear k
    obtain ⟨y2, b2, h2, k, e⟩ := bothI h; clear h; subst e; have h := k; clear k
    obtain ⟨y3, b3, h3, h4, rfl⟩ := bothI h
    rw [List.append_assoc, bindB cons_back trivial h1, List.append_assoc, bindB num4_back trivial h2, List.append_assoc, bindB num4_back trivial h3, bindB (n_back 1) (by simpa using hD.data) h4]
    exact ⟨_, rfl, rfl, rfl⟩
  rw [if_neg c3] at h ⊢
  by_cases c4 : f.code = 4864
  · rw [if_pos c4] at h ⊢
    obtain ⟨y1, b1, h1, k, e⟩ := bothI h; clear h; subst e; have h := k; clear k
    obtain ⟨y2, b2, h2, k, e⟩ := bothI h; clear h; subst e; have h := k; clear k
    obtain ⟨y3, b3, h3, k, e⟩ := bothI h; clear h; subst e; have h := k; clear k
    obtain ⟨y4, b4, h4, h5, rfl⟩ := bothI h
    rw [List.append_assoc, bindB cons_back trivial h1, List.append_assoc, bindB num4_back trivial h2, List.append_assoc, bindB num4_back trivial h3, List.append_assoc, bindB num4_back trivial h4, bindB (n_back 1) (by simpa using hD.data) h5]
    exact ⟨_, rfl, rfl, rfl⟩
  rw [if_neg c4] at h ⊢
  by_cases c5 : f.code = 5376
  · rw [if_pos c5] at h ⊢
    obtain ⟨y1, b1, h1, k, e⟩ := bothI h; clear h; subst e; have h := k; clear k
    obtain ⟨y2, b2, h2, k, e⟩ := bothI h; clear h; subst e; have h := k; clear k
    obtain ⟨y3, b3, h3, k, e⟩ := bothI h; clear h; subst e; have h := k; clear k
    obtain ⟨y4, b4, h4, h5, rfl⟩ := bothI h
    rw [List.append_assoc, bindB cons_back trivial h1, List.append_assoc, bindB num4_back trivial h2, List.append_assoc, bindB num4_back trivial h3, List.append_assoc, bindB num4_back trivial h4, bindB (text_back fun _ => True) trivial h5]
    exact ⟨_, rfl, rfl, rfl⟩
  rw [if_neg c5] at h ⊢
  by_cases c6 : f.code = 5120
  · rw [if_pos c6] at h ⊢
    obtain ⟨y1, b1, h1, k, e⟩ := bothI h; clear h; subst e; have h := k; clear k
    obtain ⟨y2, b2, h2, h3, rfl⟩ := bothI h
    rw [List.append_assoc, bindB (text_back fun _ => True) trivial h1, List.append_assoc, bindB (text_back fun _ => True) trivial h2, bindB texts_back trivial h3]
    exact ⟨_, rfl, rfl, rfl⟩
  rw [if_neg c6] at h ⊢
  by_cases c7 : f.code = 9216
  · rw [if_pos c7] at h ⊢
    obtain ⟨y1, b1, h1, h2, rfl⟩ := bothI h
    rw [List.append_assoc, bindB (text_back fun _ => True) trivial h1, bindB (text_back fun _ => True) trivial h2]
    exact ⟨_, rfl, rfl, rfl⟩
  rw [if_neg c7] at h ⊢
  by_cases c8 : f.code = 9472
  · rw [if_pos c8] at h ⊢
    rw [bindB (text_back fun _ => True) trivial h]
    exact ⟨_, rfl, rfl, rfl⟩
  rw [if_neg c8] at h ⊢
  obtain rfl := okI h
  exact ⟨_, rfl, rfl, rfl⟩
theorem flt_backE {f : Flt} {b r : B} (hD : FltB f) (h : fltW f = .ok b) : ∃ y, fltR (b ++ r) = .ok (y, r) ∧ y.code = f.code ∧ y.text = f.text := by
  unfold fltW at h
  obtain ⟨y1, b1, h1, k, e⟩ := bothI h; clear h; subst e; have h := k; clear k
  obtain ⟨y2, b2, h2, h3, rfl⟩ := bothI h
  unfold fltR
  rw [List.append_assoc, bindB (n_back 4) (by simpa using hD.code) h1, List.append_assoc, bindB (text_back fun _ => True) trivial h2]
  exact fltT_backE hD h3
theorem nte_backE {n : Nte} {b r : B} (hp : n.addr.port < 4294967296) (h : nteW n = .ok b) : ∃ y, nteR (b ++ r) = .ok (y, r) := by
  unfold nteW at h
  obtain ⟨y1, b1, h1, k, e⟩ := bothI h; clear h; subst e; have h := k; clear k
  unfold nteR
  rw [List.append_assoc, bindB (word_back _) trivial h1]
  simp only [id]
  split at h
  · rename_i hk
    obtain ⟨y, hy⟩ := chg_backE (r := r) h
    rw [if_pos hk, hy]
    exact ⟨_, rfl⟩
  · rename_i hk
    obtain ⟨y2, b2, h2, h3, rfl⟩ := bothI h
    rw [if_neg hk, List.append_assoc, bindB (word_back _) trivial h2, bindB inet_back hp h3]
    exact ⟨_, rfl⟩
theorem resT_backE {x : Rp} {b : B} (h : resTW x = .ok b) : ∃ y, resTR x.kind b = .ok (y, []) ∧ y.kind = x.kind := by
  unfold resTW at h
  unfold resTR
  by_cases c1 : x.kind = 1
  · rw [if_pos c1] at h ⊢
    obtain rfl := okI h
    exact ⟨_, rfl, rfl⟩
  rw [if_neg c1] at h ⊢
  by_cases c3 : x.kind = 3
  · rw [if_pos c3] at h ⊢
    rw [← List.append_nil b, bindB (text_back fun _ => True) trivial h]
    exact ⟨_, rfl, rfl⟩
  rw [if_neg c3] at h ⊢
  by_cases c5 : x.kind = 5
  · rw [if_pos c5] at h ⊢
    obtain ⟨y, hy⟩ := chg_backE (r := []) h
    rw [List.append_nil] at hy
    rw [hy]
    exact ⟨_, rfl, rfl⟩
  rw [if_neg c5] at h ⊢
  by_cases c4 : x.kind = 4
  · rw [if_pos c4] at h ⊢
    obtain ⟨y1, b1, h1, h2, rfl⟩ := bothI h
    rw [bindB (text_back fun _ => True) trivial h1]
    exact ⟨_, rfl, rfl⟩
  rw [if_neg c4] at h ⊢
  by_cases c2 : x.kind = 2
  · rw [if_pos c2] at h ⊢
    exact ⟨_, rfl, rfl⟩
  rw [if_neg c2] at h
  cases h
theorem getRp_of {op : Nat} {b : B} {x : Rp} (h : partsRp op b = .ok (x, [])) : getRp op b = .ok x := by unfold getRp; rw [h]; rfl
theorem resT_op {k : Nat} {b r : B} {y : Rp} (h : resTR k b = .ok (y, r)) : y.opcode = 8 := by
  unfold resTR at h
  split at h
  · obtain ⟨rfl, _⟩ := pureI h; rfl
  split at h
  · obtain ⟨_, _, _, h⟩ := bindI h; obtain ⟨rfl, _⟩ := pureI h; rfl
  split at h
  · obtain ⟨_, _, _, h⟩ := bindI h; obtain ⟨rfl, _⟩ := pureI h; rfl
  split at h
  · obtain ⟨_, _, _, h⟩ := bindI h; obtain ⟨rfl, _⟩ := pureI h; rfl
  split at h
  · obtain ⟨rfl, _⟩ := pureI h; rfl
  cases h
/-- what is put is got: what is told of it -/
structure BackP (q x : Rp) : Prop where
  op : x.opcode = q.opcode
  sup : q.opcode = 6 → x.support = q.support
  text : q.opcode = 3 → x.text = q.text
  token : q.opcode = 14 ∨ q.opcode = 16 → x.token = q.token.norm
  flt : q.opcode = 0 → x.fault.code = q.fault.code ∧ x.fault.text = q.fault.text
theorem rp_back {q : Rp} {c : B} (hD : RpB q) (hv : val31 q.token) (h : putRp q = .ok c) : ∃ x, getRp q.opcode c = .ok x ∧ BackP q x := by
  unfold putRp at h
  by_cases c0 : q.opcode = 0
  · rw [if_pos c0] at h
    obtain ⟨y, hy, h1, h2⟩ := flt_backE (r := []) hD.flt h
    rw [List.append_nil] at hy
    exact ⟨{ Rp.of q.opcode with fault := y }, getRp_of (by unfold partsRp; rw [if_pos c0, hy]; rfl), rfl, fun e => by omega, fun e => by omega, fun e => by omega, fun _ => ⟨h1, h2⟩⟩
  rw [if_neg c0] at h
  by_cases c2 : q.opcode = 2
  · rw [if_pos c2] at h
    obtain rfl := okI h
    exact ⟨Rp.of q.opcode, getRp_of (by unfold partsRp; rw [if_neg c0, if_pos c2]), rfl, fun e => by omega, fun e => by omega, fun e => by omega, fun e => by omega⟩
  rw [if_neg c2] at h
  by_cases c3 : q.opcode = 3
  · rw [if_pos c3] at h
    refine ⟨{ Rp.of q.opcode with text := q.text }, getRp_of (by unfold partsRp; rw [if_neg c0, if_neg c2, if_pos c3, ← List.append_nil c, bindB (text_back fun _ => True) trivial h]; rfl), rfl, fun e => by omega, fun _ => rfl, fun e => by omega, fun e => by omega⟩
  rw [if_neg c3] at h
  by_cases c6 : q.opcode = 6
  · rw [if_pos c6] at h
    have hb := multis_back' (r := []) h
    rw [List.append_nil] at hb
    refine ⟨{ Rp.of q.opcode with support := q.support }, getRp_of (by unfold partsRp; rw [if_neg c0, if_neg c2, if_neg c3, if_pos c6, hb]; rfl), rfl, fun _ => rfl, fun e => by omega, fun e => by omega, fun e => by omega⟩
  rw [if_neg c6] at h
  by_cases c8 : q.opcode = 8
  · rw [if_pos c8] at h
    unfold resW at h
    obtain ⟨y1, b1, h1, h2, rfl⟩ := bothI h
    obtain ⟨y, hy, _⟩ := resT_backE h2
    have hop : y.opcode = 8 := resT_op hy
    refine ⟨y, getRp_of (by unfold partsRp resR; rw [if_neg c0, if_neg c2, if_neg c3, if_neg c6, if_pos c8, bindB (n_back 4) (by simpa using hD.rkind) h1]; exact hy), by omega, fun e => by omega, fun e => by omega, fun e => by omega, fun e => by omega⟩
  rw [if_neg c8] at h
  by_cases c12 : q.opcode = 12
  · rw [if_pos c12] at h
    obtain ⟨y, hy⟩ := nte_backE (r := []) hD.port h
    rw [List.append_nil] at hy
    exact ⟨{ Rp.of q.opcode with note := y }, getRp_of (by unfold partsRp; rw [if_neg c0, if_neg c2, if_neg c3, if_neg c6, if_neg c8, if_pos c12, hy]; rfl), rfl, fun e => by omega, fun e => by omega, fun e => by omega, fun e => by omega⟩
  rw [if_neg c12] at h
  by_cases c14 : q.opcode = 14 ∨ q.opcode = 16
  · rw [if_pos c14] at h
    exact ⟨{ Rp.of q.opcode with token := q.token.norm }, getRp_of (by unfold partsRp; rw [if_neg c0, if_neg c2, if_neg c3, if_neg c6, if_neg c8, if_neg c12, if_pos c14, ← List.append_nil c, bindB value_back hv h]), rfl, fun e => by omega, fun e => by omega, fun _ => rfl, fun e => by omega⟩
  rw [if_neg c14] at h
  cases h
end Sb
