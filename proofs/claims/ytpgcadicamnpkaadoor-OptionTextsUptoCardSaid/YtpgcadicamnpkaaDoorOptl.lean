/- A type of values that is written down in the text: its cells, out of the types that it holds. No conditions. -/
import Derived.Test.YtpgcadicamnpkaaDoorOpts
import Derived.Test.YtpgcadicamnpkaaDoorPlant
set_option linter.unusedVariables false
set_option linter.unusedSimpArgs false
namespace Go.Proofs.Sb
open Go.RowKit _root_.Sb

theorem arr_lits {α : Type} {k : Nat} {P : α → List Value → Prop} {e : TypeId} (w : World) (vs : Array Value) (l : List α) (n : Nat) (hn : l.length = n) (hm : n ≤ 9223372036854775807) (hp : Els k P l vs.toList) {g : Nat} (hg : g = w.heap.size) : Arr k P (fun b => b = w.heap.size) (w.alloc (.cells vs e)) (some ⟨g, 0, none⟩) n n l := by
  subst hg
  refine ⟨hn.symm, Nat.le_refl _, hm, vs.toList, hp, fun _ => ⟨w.heap.size, 0, rfl, rfl, by simp, fun j u hu => ?_⟩⟩
  rw [Nat.zero_add]
  have e1 : (w.alloc (.cells vs e)).heap[w.heap.size]? = some (.cells vs e) := heap_alloc_new w _
  unfold World.cell?
  rw [e1]
  simpa using hu
section
variable {S : Nat → Prop} {w W : World} {M D : Nat} {A1 : Option Addr} {n1 c1 : Nat} {A2 : Option Addr} {n2 c2 : Nat} {a : Opt} {B1 : Option Addr} {m1 d1 : Nat} {B2 : Option Addr} {m2 d2 : Nat} {b : Opt}
theorem o1_R {id : Nat} (hid : id < 65536) {e : TypeId} {g : Nat} (hg : g = w.heap.size) (ha : OptR S w M D A1 n1 c1 A2 n2 c2 a)
    (h : Below (w.alloc (.cells #[.int .u16 (a.id : Int), .string (str a.space), .string (str a.name), .slice A1 n1 c1, .slice A2 n2 c2] e)).heap.size (w.alloc (.cells #[.int .u16 (a.id : Int), .string (str a.space), .string (str a.name), .slice A1 n1 c1, .slice A2 n2 c2] e)) W) :
    OptR (fun _ => True) W M (D + 1) none 0 0 (some ⟨g, 0, none⟩) 1 1 (o1 id a) := by
  have h1 := (arr_lits (e := e) (P := optD S w M (D + 1)) w #[.int .u16 (a.id : Int), .string (str a.space), .string (str a.name), .slice A1 n1 c1, .slice A2 n2 c2] [a] 1 rfl (by decide) (Els.one rfl ha.to) hg).imp fun _ _ _ h => (h.keep (w' := w.alloc (.cells #[.int .u16 (a.id : Int), .string (str a.space), .string (str a.name), .slice A1 n1 c1, .slice A2 n2 c2] e)) (by simp) fun b _ hb => ((Below.refl _ _).alloc (by simp) _).block b hb).mono (S' := fun _ => True) fun _ _ _ => trivial
  have h2 := h1.mono (S' := fun _ => True) fun _ _ _ => trivial
  exact ⟨hid, Nat.zero_le _, Nat.zero_le _, Arr.nil, (h2.imp fun _ _ _ k => k.keep h.size fun b _ hlt => h.block b hlt).after h⟩
theorem o2_R {id : Nat} (hid : id < 65536) {e : TypeId} {g : Nat} (hg : g = w.heap.size) (ha : OptR S w M D A1 n1 c1 A2 n2 c2 a) (hb : OptR S w M D B1 m1 d1 B2 m2 d2 b)
    (h : Below (w.alloc (.cells #[.int .u16 (a.id : Int), .string (str a.space), .string (str a.name), .slice A1 n1 c1, .slice A2 n2 c2, .int .u16 (b.id : Int), .string (str b.space), .string (str b.name), .slice B1 m1 d1, .slice B2 m2 d2] e)).heap.size (w.alloc (.cells #[.int .u16 (a.id : Int), .string (str a.space), .string (str a.name), .slice A1 n1 c1, .slice A2 n2 c2, .int .u16 (b.id : Int), .string (str b.space), .string (str b.name), .slice B1 m1 d1, .slice B2 m2 d2] e)) W) :
    OptR (fun _ => True) W M (D + 1) none 0 0 (some ⟨g, 0, none⟩) 2 2 (o2 id a b) := by
  have h0 : Els 5 (optD S w M (D + 1)) [a, b] [.int .u16 (a.id : Int), .string (str a.space), .string (str a.name), .slice A1 n1 c1, .slice A2 n2 c2, .int .u16 (b.id : Int), .string (str b.space), .string (str b.name), .slice B1 m1 d1, .slice B2 m2 d2] :=
    ⟨[.int .u16 (a.id : Int), .string (str a.space), .string (str a.name), .slice A1 n1 c1, .slice A2 n2 c2], [.int .u16 (b.id : Int), .string (str b.space), .string (str b.name), .slice B1 m1 d1, .slice B2 m2 d2], rfl, rfl, ha.to, Els.one rfl hb.to⟩
  have h1 := (arr_lits (e := e) (P := optD S w M (D + 1)) w #[.int .u16 (a.id : Int), .string (str a.space), .string (str a.name), .slice A1 n1 c1, .slice A2 n2 c2, .int .u16 (b.id : Int), .string (str b.space), .string (str b.name), .slice B1 m1 d1, .slice B2 m2 d2] [a, b] 2 rfl (by decide) h0 hg).imp fun _ _ _ h => (h.keep (w' := w.alloc (.cells #[.int .u16 (a.id : Int), .string (str a.space), .string (str a.name), .slice A1 n1 c1, .slice A2 n2 c2, .int .u16 (b.id : Int), .string (str b.space), .string (str b.name), .slice B1 m1 d1, .slice B2 m2 d2] e)) (by simp) fun b _ hb => ((Below.refl _ _).alloc (by simp) _).block b hb).mono (S' := fun _ => True) fun _ _ _ => trivial
  have h2 := h1.mono (S' := fun _ => True) fun _ _ _ => trivial
  exact ⟨hid, Nat.zero_le _, Nat.zero_le _, Arr.nil, (h2.imp fun _ _ _ k => k.keep h.size fun b _ hlt => h.block b hlt).after h⟩
end
end Go.Proofs.Sb
