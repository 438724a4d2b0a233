/- Plain mathematics of the reference's items; no program in sight. No conditions. -/
import Derived.Test.YtfeeeighafflnaaGreatMapsd
set_option linter.unusedVariables false
set_option linter.unusedSimpArgs false
namespace Sb
/-- an item: a key, a text, texts, a value -/
structure Thing where
  key : B
  text : B
  texts : List B
  value : Val
def Thing.ofText (s : B) : Thing := ⟨s, [], [], Val.none⟩
def Thing.ofPair (p : B × B) : Thing := ⟨p.1, p.2, [], Val.none⟩
def Thing.ofMulti (p : B × List B) : Thing := ⟨p.1, [], p.2, Val.none⟩
def Thing.ofEntry (p : B × Val) : Thing := ⟨p.1, [], [], p.2⟩
/-- an item's bytes, by the kind -/
def itemV (K : Nat) (x : Thing) : Wr := if K = 0 then .ok [] else if K = 1 then Sb.text x.text else if K = 2 then Sb.texts x.texts else Sb.value x.value
def itemW (K : Nat) (x : Thing) : Wr := bothW (Sb.text x.key) (itemV K x)
/-- an item that is read, by the kind -/
def itemR (K : Nat) (b : B) : Res Thing := match getText b with
  | .error e => .error e
  | .ok (k, r) => if K = 0 then .ok (.ofText k, r) else if K = 1 then (match getText r with
      | .error e => .error e
      | .ok (x, r2) => .ok (.ofPair (k, x), r2)) else if K = 2 then (match getTexts r with
      | .error e => .error e
      | .ok (x, r2) => .ok (.ofMulti (k, x), r2)) else (match getValue r with
      | .error e => .error e
      | .ok (x, r2) => .ok (.ofEntry (k, x), r2))

theorem putsM_map {α β : Type} (f : α → Wr) (g : β → Wr) (h : α → β) (hf : ∀ x, g (h x) = f x) : ∀ l : List α, putsM g (l.map h) = putsM f l
  | [] => rfl
  | x :: l => by simp only [List.map_cons, putsM, hf, putsM_map f g h hf l]
theorem putL_map {α β : Type} (f : α → Wr) (g : β → Wr) (h : α → β) (hf : ∀ x, g (h x) = f x) (l : List α) : putL g (l.map h) = putL f l := by
  unfold putL
  rw [List.length_map, putsM_map f g h hf]
theorem bothW_nil (k : Wr) : bothW k (.ok []) = k := by cases k <;> simp [bothW]
theorem put_texts (l : List B) : putL (itemW 0) (l.map .ofText) = texts l := putL_map _ _ _ (fun x => by simp [itemW, itemV, Thing.ofText, bothW_nil]) l
theorem put_pairs (l : List (B × B)) : putL (itemW 1) (l.map .ofPair) = putL pairW l := putL_map _ _ _ (fun x => by simp [itemW, itemV, Thing.ofPair, pairW]) l
theorem put_multis (l : List (B × List B)) : putL (itemW 2) (l.map .ofMulti) = putL multiW l := putL_map _ _ _ (fun x => by simp [itemW, itemV, Thing.ofMulti, multiW]) l
theorem put_entries (l : List (B × Val)) : putL (itemW 3) (l.map .ofEntry) = putL entryW l := putL_map _ _ _ (fun x => by simp [itemW, itemV, Thing.ofEntry, entryW]) l

/-- a result whose value is turned -/
def rmap {α β : Type} (h : α → β) : Res α → Res β
  | .ok (x, r) => .ok (h x, r)
  | .error e => .error e
theorem getsM_map {α β : Type} (f : B → Res α) (g : B → Res β) (h : α → β) (hf : ∀ b, g b = rmap h (f b)) : ∀ (n : Nat) (b : B), getsM g n b = rmap (List.map h) (getsM f n b)
  | 0, b => rfl
  | n + 1, b => by
    simp only [getsM, hf]
    cases f b with
    | error e => rfl
    | ok p =>
      obtain ⟨x, r⟩ := p
      simp only [rmap, getsM_map f g h hf n r]
      cases getsM f n r with
      | error e => rfl
      | ok p2 => rfl
theorem getL_map {α β : Type} (f : B → Res α) (g : B → Res β) (h : α → β) (hf : ∀ b, g b = rmap h (f b)) (b : B) : getL g b = rmap (List.map h) (getL f b) := by
  unfold getL
  cases getN 2 b with
  | error e => rfl
  | ok p => obtain ⟨n, r⟩ := p; exact getsM_map f g h hf n r
theorem get_texts (b : B) : getL (itemR 0) b = rmap (List.map .ofText) (getTexts b) := getL_map _ _ _ (fun b => by unfold itemR; cases getText b with | error e => rfl | ok p => obtain ⟨x, r⟩ := p; rfl) b
theorem get_pairs (b : B) : getL (itemR 1) b = rmap (List.map .ofPair) (getL pairR b) := getL_map _ _ _ (fun b => by
  unfold itemR pairR bothR
  cases getText b with
  | error e => rfl
  | ok p =>
    obtain ⟨x, r⟩ := p
    simp
    cases getText r with
    | error e => rfl
    | ok p => rfl) b
theorem get_multis (b : B) : getL (itemR 2) b = rmap (List.map .ofMulti) (getL multiR b) := getL_map _ _ _ (fun b => by
  unfold itemR multiR bothR
  cases getText b with
  | error e => rfl
  | ok p =>
    obtain ⟨x, r⟩ := p
    simp
    cases getTexts r with
    | error e => rfl
    | ok p => rfl) b
theorem get_entries (b : B) : getL (itemR 3) b = rmap (List.map .ofEntry) (getL entryR b) := getL_map _ _ _ (fun b => by
  unfold itemR entryR bothR
  cases getText b with
  | error e => rfl
  | ok p =>
    obtain ⟨x, r⟩ := p
    simp
    cases getValue r with
    | error e => rfl
    | ok p => rfl) b
end Sb
namespace Go.Proofs.Sb
open Go.RowKit _root_.Sb
/-- the cells of an item -/
def itemP (S : Nat → Prop) (w : World) (x : Thing) (v : List Value) : Prop := ∃ A n c, v = [.string (str x.key), .string (str x.text), .slice A n c, .int .i64 x.value.kind, .string (str x.value.bytes)] ∧
  x.key.length ≤ 9223372036854775807 ∧ x.text.length ≤ 9223372036854775807 ∧ x.value.bytes.length ≤ 9223372036854775807 ∧ Arr 1 strP S w A n c x.texts
theorem itemP.imp {S S' : Nat → Prop} {w w' : World} {p : Thing} {v : List Value} (h : itemP S w p v) (hi : ∀ A n c l, Arr 1 strP S w A n c l → Arr 1 strP S' w' A n c l) : itemP S' w' p v :=
  let ⟨A, n, c, h1, h2, h3, h4, h5⟩ := h; ⟨A, n, c, h1, h2, h3, h4, hi _ _ _ _ h5⟩
theorem itemP_one {S : Nat → Prop} {w : World} (p : Thing) (v : List Value) (h : itemP S w p v) : ∀ u ∈ v, u.oneCell' = true := by
  obtain ⟨A, n, c, h, _⟩ := h
  rw [h]
  intro u hu
  simp at hu
  rcases hu with rfl | rfl | rfl | rfl | rfl <;> rfl
theorem tyItem : Ty 46 100 5 80 (.agg #[.string ByteArray.empty, .string ByteArray.empty, .slice none 0 0, .int .i64 0, .string ByteArray.empty]) := ⟨Tryz.underlying46, by kernel_rfl, rfl, by decide⟩
end Go.Proofs.Sb
