/- Words for the laws of layer 3. No conditions. -/
import Derived.Test.YtenhgcgdhaegaaaDoorLawcp
set_option linter.unusedVariables false
set_option linter.unusedSimpArgs false
namespace Sb
theorem text_len2 {s : B} {b : B} (h : text s = .ok b) : b.length ≤ 65537 := by
  unfold text at h
  split at h
  · cases h
  · injection h with h; subst h; simp [enc_length]; omega
theorem bothW_parts {k v : Wr} {b : B} (h : bothW k v = .ok b) : ∃ x y, k = .ok x ∧ v = .ok y ∧ b = x ++ y := by
  unfold bothW at h
  cases k with
  | error e => cases h
  | ok x =>
    cases v with
    | error e => cases h
    | ok y => injection h with h; exact ⟨x, y, rfl, rfl, h.symm⟩
theorem itemW_len {K M : Nat} {x : Thing} (hv : ∀ b, itemV K x = .ok b → b.length ≤ M) {b : B} (h : itemW K x = .ok b) : b.length ≤ 65537 + M := by
  obtain ⟨y, z, h1, h2, rfl⟩ := bothW_parts h
  have a := text_len2 h1
  have b := hv z h2
  rw [List.length_append]
  omega
theorem itemW0_len {x : Thing} {b : B} (h : itemW 0 x = .ok b) : b.length ≤ 65537 := itemW_len (M := 0) (fun b h => by injection h with h; subst h; simp) h
theorem itemW1_len {x : Thing} {b : B} (h : itemW 1 x = .ok b) : b.length ≤ 131074 := itemW_len (M := 65537) (fun b h => text_len2 (s := x.text) (by simpa [itemV] using h)) h
theorem itemW2_len {x : Thing} (hx : x.texts.length ≤ 50) {b : B} (h : itemW 2 x = .ok b) : b.length ≤ 3342389 := by
  have := itemW_len (M := 3276852) (fun b h => by have := (texts_len (l := x.texts) (b := b) (by simpa [itemV] using h)).1; omega) h
  omega
theorem itemW3_len {x : Thing} (hx : x.value.bytes.length ≤ 1048576) {b : B} (h : itemW 3 x = .ok b) : b.length ≤ 1114117 := by
  have := itemW_len (M := 1048580) (fun b h => by have := value_len (v := x.value) (b := b) (by simpa [itemV] using h); omega) h
  omega
theorem mr_vals {b : B} {x : B × List B} {r : B} (h : multiR b = .ok (x, r)) : x.2.length ≤ 65535 := by
  unfold multiR bothR at h
  cases h1 : getText b with
  | error e => rw [h1] at h; cases h
  | ok p =>
    rw [h1] at h
    simp only at h
    cases h2 : getTexts p.2 with
    | error e => rw [h2] at h; cases h
    | ok q =>
      rw [h2] at h
      injection h with h
      injection h with h3 h4
      rw [← h3]
      exact (getL_len Go.Proofs.Sb.gt_len h2).1
theorem getsM_all {α : Type} {f : B → Res α} {Q : α → Prop} (hf : ∀ b x r, f b = .ok (x, r) → Q x) : ∀ {n : Nat} {b : B} {xs : List α} {r : B}, getsM f n b = .ok (xs, r) → ∀ x ∈ xs, Q x
  | 0, _, _, _, h, x, hx => by
    injection h with h
    injection h with h1 h2
    subst h1
    cases hx
  | n + 1, b, xs, r, h, x, hx => by
    simp only [getsM] at h
    cases h1 : f b with
    | error e => rw [h1] at h; cases h
    | ok p =>
      rw [h1] at h
      simp only at h
      cases h2 : getsM f n p.2 with
      | error e => rw [h2] at h; cases h
      | ok q =>
        rw [h2] at h
        injection h with h
        injection h with h3 h4
        subst h3
        rcases List.mem_cons.1 hx with rfl | hx
        · exact hf _ _ _ h1
        · exact getsM_all hf h2 x hx
theorem getL_all {α : Type} {f : B → Res α} {Q : α → Prop} (hf : ∀ b x r, f b = .ok (x, r) → Q x) {b : B} {r : Res (List α)} (h : getL f b = r) : ∀ x ∈ rval [] r, Q x := by
  unfold getL at h
  cases h1 : getN 2 b with
  | error e => rw [h1] at h; subst h; intro x hx; cases hx
  | ok p =>
    rw [h1] at h
    simp only at h
    cases r with
    | error e => intro x hx; cases hx
    | ok q => exact getsM_all hf h
theorem gm_vals {b : B} {r : Res (List (B × List B))} (h : getL multiR b = r) : ∀ x ∈ rval [] r, x.2.length ≤ 65535 := getL_all (fun _ _ _ h => mr_vals h) h
end Sb
namespace Go.Proofs.Sb
open Go.RowKit _root_.Sb
/-- items, read in the world behind -/
theorem items_move {S T : Nat → Prop} {w w' : World} {A : Option Addr} {n c : Nat} {l : List Thing} (h : Arr 5 (itemP T w) S w A n c l) (hb : Below w.heap.size w w') : Arr 5 (itemP T w') S w' A n c l :=
  (h.after hb).imp fun _ _ _ h => h.imp fun _ _ _ _ h => h.after hb
/-- the rows that the law made, in the world behind -/
theorem items_now {e : TypeId} {T : Nat → Prop} {w w' : World} {A : Option Addr} {n c : Nat} {l : List Thing} (h : OwnA e 5 (itemP T w) w.heap.size w' A n c l) (hb : Below w.heap.size w w') (hT : ∀ b, T b → False) : Arr 5 (itemP T w') (fun b => w.heap.size ≤ b) w' A n c l :=
  ((h.arr (by decide)).mono fun _ h _ => h.1).imp fun _ _ _ h => h.imp fun _ _ _ _ h => h.after hb
/-- rows that came out of a reading, in the world behind -/
theorem multis_move {S T : Nat → Prop} {w w' : World} {A : Option Addr} {n c : Nat} {l : List (B × List B)} (h : Arr 2 (multiP T w) S w A n c l) (hb : Below w.heap.size w w') : Arr 2 (multiP T w') S w' A n c l :=
  (h.after hb).imp fun _ _ _ h => h.imp fun _ _ _ _ h => h.after hb
theorem entries_move {S T : Nat → Prop} {w w' : World} {A : Option Addr} {n c : Nat} {l : List (B × Val)} (h : Arr 3 (entryP T w) S w A n c l) (hb : Below w.heap.size w w') : Arr 3 (entryP T w') S w' A n c l :=
  (h.after hb).imp fun _ _ _ h => h.imp fun _ _ _ _ h => h.after hb
theorem str_append2 (a b : B) : str a ++ str b = str (a ++ b) := by
  apply ByteArray.ext
  simp [str]
theorem add_str2 (a b : B) (h : a.length + b.length ≤ 9223372036854775807) (w : World) : (Op.stringOp .add (str a) (str b)).run Tryd.prog w = .ok (.string (str (a ++ b))) w := by
  rw [run_string_add_sum w _ _ (by simpa using h), str_append2]
end Go.Proofs.Sb
