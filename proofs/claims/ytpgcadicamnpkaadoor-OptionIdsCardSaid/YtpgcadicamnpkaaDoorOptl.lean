/- A type of values that is written down in the text: its cells, out of the types that it holds. No conditions. -/
import Derived.Test.YtpgcadicamnpkaaDoorOpts
import Derived.Test.YtpgcadicamnpkaaDoorPlant
set_option linter.unusedVariables false
set_option linter.unusedSimpArgs false
namespace Go.Proofs.Sb
open Go.RowKit _root_.Sb

theorem arr_lits {α : Type} {k : Nat} {P : α → List Value → Prop} {e : TypeId} (w : World) (vs : Array Value) (l : List α) (n : Nat) (hn : l.length = n) (hm : n ≤ 9223372036854775807) (hp : Els k P l vs.toList) {g : Nat} (hg : g = w.heap.size) : Arr k P (fun b => b = w.heap.size) (w.alloc (.cells vs e)) (some ⟨g, 0, none⟩) n n l := by
  subst hg
  refine ⟨hn.symm, Nat.le_refl _, hm, vs.toList, hp, fun _ => ⟨w.heap.size, 0, rfl, rfl, by simp, fun j u hu => ?_⟩⟩
  rw [Nat.zero_add]
  have e1 : (w.alloc (.cells vs e)).heap[w.heap.size]? = some (.cells vs e) := heap_alloc_new w _
  unfold World.cell?
  rw [e1]
  simpa using hu
theorem tell_lim {S : Nat → Prop} {W : World} {M d : Nat} {A1 : Option Addr} {n1 c1 : Nat} {A2 : Option Addr} {n2 c2 : Nat} {o : Opt} (h : OptR S W M d A1 n1 c1 A2 n2 c2 o) (hM : M ≤ 1048576) (hn : nD (d + 1) o ≤ 500) : (tellD (d + 1) o).length ≤ 1048606000 := by
  have h1 := tellD_len M (d + 1) o h.to.cap
  have h2 : nD (d + 1) o * (2 * M + 30) ≤ 500 * (2 * 1048576 + 30) := Nat.mul_le_mul hn (by omega)
  omega
theorem textW_len {d : Nat} {o : Opt} {s : B} (h : textW d o = .ok s) : s = tellD d o := by
  unfold textW at h
  split at h
  · cases h
  · split at h
    · cases h
    · injection h with h; exact h.symm
section
variable {S : Nat → Prop} {w W : World} {M D : Nat} {A1 : Option Addr} {n1 c1 : Nat} {A2 : Option Addr} {n2 c2 : Nat} {a : Opt} {B1 : Option Addr} {m1 d1 : Nat} {B2 : Option Addr} {m2 d2 : Nat} {b : Opt}
theorem o1_R {id : Nat} (hid : id < 65536) {e : TypeId} {g : Nat} (hg : g = w.heap.size) (ha : OptR S w M D A1 n1 c1 A2 n2 c2 a)
    (h : Below (w.alloc (.cells #[.int .u16 (a.id : Int), .string (str a.space), .string (str a.name), .slice A1 n1 c1, .slice A2 n2 c2] e)).heap.size (w.alloc (.cells #[.int .u16 (a.id : Int), .string (str a.space), .string (str a.name), .slice A1 n1 c1, .slice A2 n2 c2] e)) W) :
    OptR (fun _ => True) W M (D + 1) none 0 0 (some ⟨g, 0, none⟩) 1 1 (o1 id a) := by
  have h1 := (arr_lits (e := e) (P := optD S w M (D + 1)) w #[.int .u16 (a.id : Int), .string (str a.space), .string (str a.name), .slice A1 n1 c1, .slice A2 n2 c2] [a] 1 rfl (by decide) (Els.one rfl ha.to) hg).imp fun _ _ _ h => (h.keep (w' := w.alloc (.cells #[.int .u16 (a.id : Int), .string (str a.space), .string (str a.name), .slice A1 n1 c1, .slice A2 n2 c2] e)) (by simp) fun b _ hb => ((Below.refl _ _).alloc (by simp) _).block b hb).mono (S' := fun _ => True) fun _ _ _ => trivial
  have h2 := h1.mono (S' := fun _ => True) fun _ _ _ => trivial
  exact ⟨hid, Nat.zero_le _, Nat.zero_le _, Arr.nil, (h2.imp fun _ _ _ k => k.keep h.size fun b _ hlt => h.block b hlt).after h⟩
/-- the same, the types that it holds in blocks of a kind -/
theorem o1_S {id : Nat} (hid : id < 65536) {e : TypeId} {g : Nat} (hg : g = w.heap.size) (hS : S w.heap.size) (ha : OptR S w M D A1 n1 c1 A2 n2 c2 a) :
    OptR S (w.alloc (.cells #[.int .u16 (a.id : Int), .string (str a.space), .string (str a.name), .slice A1 n1 c1, .slice A2 n2 c2] e)) M (D + 1) none 0 0 (some ⟨g, 0, none⟩) 1 1 (o1 id a) := by
  have h1 := (arr_lits (e := e) (P := optD S w M (D + 1)) w #[.int .u16 (a.id : Int), .string (str a.space), .string (str a.name), .slice A1 n1 c1, .slice A2 n2 c2] [a] 1 rfl (by decide) (Els.one rfl ha.to) hg).imp fun _ _ _ h => (h.keep (w' := w.alloc (.cells #[.int .u16 (a.id : Int), .string (str a.space), .string (str a.name), .slice A1 n1 c1, .slice A2 n2 c2] e)) (by simp) fun b _ hb => ((Below.refl _ _).alloc (by simp) _).block b hb)
  exact ⟨hid, Nat.zero_le _, Nat.zero_le _, Arr.nil, h1.mono fun b hb _ => by rw [hb]; exact hS⟩
theorem o2_R {id : Nat} (hid : id < 65536) {e : TypeId} {g : Nat} (hg : g = w.heap.size) (ha : OptR S w M D A1 n1 c1 A2 n2 c2 a) (hb : OptR S w M D B1 m1 d1 B2 m2 d2 b)
    (h : Below (w.alloc (.cells #[.int .u16 (a.id : Int), .string (str a.space), .string (str a.name), .slice A1 n1 c1, .slice A2 n2 c2, .int .u16 (b.id : Int), .string (str b.space), .string (str b.name), .slice B1 m1 d1, .slice B2 m2 d2] e)).heap.size (w.alloc (.cells #[.int .u16 (a.id : Int), .string (str a.space), .string (str a.name), .slice A1 n1 c1, .slice A2 n2 c2, .int .u16 (b.id : Int), .string (str b.space), .string (str b.name), .slice B1 m1 d1, .slice B2 m2 d2] e)) W) :
    OptR (fun _ => True) W M (D + 1) none 0 0 (some ⟨g, 0, none⟩) 2 2 (o2 id a b) := by
  have h0 : Els 5 (optD S w M (D + 1)) [a, b] [.int .u16 (a.id : Int), .string (str a.space), .string (str a.name), .slice A1 n1 c1, .slice A2 n2 c2, .int .u16 (b.id : Int), .string (str b.space), .string (str b.name), .slice B1 m1 d1, .slice B2 m2 d2] :=
    ⟨[.int .u16 (a.id : Int), .string (str a.space), .string (str a.name), .slice A1 n1 c1, .slice A2 n2 c2], [.int .u16 (b.id : Int), .string (str b.space), .string (str b.name), .slice B1 m1 d1, .slice B2 m2 d2], rfl, rfl, ha.to, Els.one rfl hb.to⟩
  have h1 := (arr_lits (e := e) (P := optD S w M (D + 1)) w #[.int .u16 (a.id : Int), .string (str a.space), .string (str a.name), .slice A1 n1 c1, .slice A2 n2 c2, .int .u16 (b.id : Int), .string (str b.space), .string (str b.name), .slice B1 m1 d1, .slice B2 m2 d2] [a, b] 2 rfl (by decide) h0 hg).imp fun _ _ _ h => (h.keep (w' := w.alloc (.cells #[.int .u16 (a.id : Int), .string (str a.space), .string (str a.name), .slice A1 n1 c1, .slice A2 n2 c2, .int .u16 (b.id : Int), .string (str b.space), .string (str b.name), .slice B1 m1 d1, .slice B2 m2 d2] e)) (by simp) fun b _ hb => ((Below.refl _ _).alloc (by simp) _).block b hb).mono (S' := fun _ => True) fun _ _ _ => trivial
  have h2 := h1.mono (S' := fun _ => True) fun _ _ _ => trivial
  exact ⟨hid, Nat.zero_le _, Nat.zero_le _, Arr.nil, (h2.imp fun _ _ _ k => k.keep h.size fun b _ hlt => h.block b hlt).after h⟩
end
end Go.Proofs.Sb
