/- Words for the laws of layer 3. No conditions. -/
import Derived.Test.YtfgdohdbabhplaaLawc
namespace Sb
theorem text_len2 {s : B} {b : B} (h : text s = .ok b) : b.length ≤ 65537 := by
  unfold text at h
  split at h
  · cases h
  · injection h with h; subst h; simp [enc_length]; omega
theorem bothW_parts {k v : Wr} {b : B} (h : bothW k v = .ok b) : ∃ x y, k = .ok x ∧ v = .ok y ∧ b = x ++ y := by
  unfold bothW at h
  cases k with
  | error e => cases h
  | ok x =>
    cases v with
    | error e => cases h
    | ok y => injection h with h; exact ⟨x, y, rfl, rfl, h.symm⟩
theorem itemW_len {K M : Nat} {x : Thing} (hv : ∀ b, itemV K x = .ok b → b.length ≤ M) {b : B} (h : itemW K x = .ok b) : b.length ≤ 65537 + M := by
  obtain ⟨y, z, h1, h2, rfl⟩ := bothW_parts h
  have a := text_len2 h1
  have b := hv z h2
  rw [List.length_append]
  omega
theorem itemW0_len {x : Thing} {b : B} (h : itemW 0 x = .ok b) : b.length ≤ 65537 := itemW_len (M := 0) (fun b h => by injection h with h; subst h; simp) h
theorem itemW1_len {x : Thing} {b : B} (h : itemW 1 x = .ok b) : b.length ≤ 131074 := itemW_len (M := 65537) (fun b h => text_len2 (s := x.text) (by simpa [itemV] using h)) h
theorem pairW_le {x : B × B} {b : B} (h : pairW x = .ok b) : b.length ≤ 131074 := by
  obtain ⟨y, z, h1, h2, rfl⟩ := bothW_parts h
  have a := text_len2 h1
  have b := text_len2 h2
  rw [List.length_append]
  omega
end Sb
namespace Go.Proofs.Sb
open Go.RowKit _root_.Sb
/-- items, read in the world behind -/
theorem items_move {S T : Nat → Prop} {w w' : World} {A : Option Addr} {n c : Nat} {l : List Thing} (h : Arr 5 (itemP T w) S w A n c l) (hb : Below w.heap.size w w') : Arr 5 (itemP T w') S w' A n c l :=
  (h.after hb).imp fun _ _ _ h => h.imp fun _ _ _ _ h => h.after hb
/-- the rows that the law made, in the world behind -/
theorem items_now {e : TypeId} {T : Nat → Prop} {w w' : World} {A : Option Addr} {n c : Nat} {l : List Thing} (h : OwnA e 5 (itemP T w) w.heap.size w' A n c l) (hb : Below w.heap.size w w') (hT : ∀ b, T b → False) : Arr 5 (itemP T w') (fun b => w.heap.size ≤ b) w' A n c l :=
  ((h.arr (by decide)).mono fun _ h _ => h.1).imp fun _ _ _ h => h.imp fun _ _ _ _ h => h.after hb
end Go.Proofs.Sb
