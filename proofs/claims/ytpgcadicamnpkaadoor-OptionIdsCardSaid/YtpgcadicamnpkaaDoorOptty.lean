/- Words for option.tell. No conditions. (written by gen_opttell.py) -/
import Derived.Test.YtpgcadicamnpkaaDoorOptb
set_option linter.unusedVariables false
set_option linter.unusedSimpArgs false
namespace Sb
theorem joinB_app : ∀ (a b : List B), (joinB a).length ≤ (joinB (a ++ b)).length
  | [], b => by simp [joinB]
  | x :: a, b => by simp [joinB, List.flatMap_append]
theorem joinB_part {l : List B} (k : Nat) : (joinB (l.take k)).length ≤ (joinB l).length := by
  have := joinB_app (l.take k) (l.drop k)
  rwa [List.take_append_drop] at this
theorem map_get {g : Opt → B} {l : List Opt} {k : Nat} {x : Opt} (h : l[k]? = some x) : (l.map g)[k]? = some (g x) := by rw [List.getElem?_map, h]; rfl
theorem join_step {g : Opt → B} {l : List Opt} {k : Nat} {x : Opt} (h : l[k]? = some x) : joinB ((l.take (k + 1)).map g) = joinB ((l.take k).map g) ++ ((if 0 < k then sepB else []) ++ g x) := by
  rw [List.map_take, List.map_take]
  exact joinB_take (map_get h)
theorem join_room {g : Opt → B} {l : List Opt} {k : Nat} {x : Opt} (h : l[k]? = some x) : (joinB ((l.take k).map g)).length + ((if 0 < k then sepB else []).length + (g x).length) ≤ (joinB (l.map g)).length := by
  have h1 := congrArg List.length (join_step (g := g) h)
  rw [List.length_append, List.length_append] at h1
  have h2 := joinB_part (l := l.map g) (k + 1)
  rw [← List.map_take] at h2
  omega
def wordB (id : Nat) : B := if id = 32 then wList else if id = 33 then wMap else if id = 34 then wSet else wTuple
theorem tell_comp {d : Nat} {o : Opt} (h : o.id = 32 ∨ o.id = 33 ∨ o.id = 34 ∨ o.id = 49) : tellD (d + 1) o = wordB o.id ++ [60] ++ joinB (o.kids.map (tellD d)) ++ [62] := by
  simp only [tellD]
  unfold wordB
  rcases h with h | h | h | h <;> rw [h] <;> rfl
theorem tell_0 {d : Nat} {o : Opt} (h : o.id = 0) : tellD (d + 1) o = [39] ++ o.name ++ [39] := by simp only [tellD, h]; rfl
theorem tell_48 {d : Nat} {o : Opt} (h : o.id = 48) : tellD (d + 1) o = o.space ++ [46] ++ o.name := by simp only [tellD, h]; rfl
theorem tell_else {d : Nat} {o : Opt} (h : ¬ (o.id = 0 ∨ o.id = 48 ∨ o.id = 32 ∨ o.id = 33 ∨ o.id = 34 ∨ o.id = 49)) : tellD (d + 1) o = nameB o.id := by
  simp only [not_or] at h
  simp only [tellD, if_neg h.1, if_neg h.2.1, if_neg h.2.2.1, if_neg h.2.2.2.1, if_neg h.2.2.2.2.1, if_neg h.2.2.2.2.2]
end Sb
namespace Go.Proofs.Sb
open Go.RowKit _root_.Sb
theorem str_app (a b : B) : str a ++ str b = str (a ++ b) := by
  apply ByteArray.ext
  simp [str]
theorem add_str3 (a b : B) (h : a.length + b.length ≤ 9223372036854775807) (w : World) : (Op.stringOp .add (str a) (str b)).run Tryd.prog w = .ok (.string (str (a ++ b))) w := by
  rw [run_string_add_sum w _ _ (by simpa using h), str_app]
abbrev IsB (B b : Nat) (bs : List UInt8) (w : World) : Prop := Lib.IsBuilder 50 5 B b (bv bs) w
abbrev OK8 (b : Nat) (w w' : World) : Prop := Lib.OthersKept 5 (some b) w w'
theorem IsB.after {B b : Nat} {bs : List UInt8} {w w' : World} (h : IsB B b bs w) (hb : Below w.heap.size w w') : IsB B b bs w' := by
  have key : ∀ p, Lib.BuilderAt 50 5 B b p (bv bs) w → Lib.BuilderAt 50 5 B b p (bv bs) w' := by
    rintro p ⟨hB, v, h1, h2, h3⟩
    refine ⟨hB, v, (hb.block b (Array.getElem?_eq_some_iff.1 h1).1).trans h1, ⟨h2.1, ?_⟩, h3⟩
    rcases h2.2 with h4 | ⟨g, cap, cur, e, hbg, hg, r⟩
    · exact .inl h4
    · exact .inr ⟨g, cap, cur, e, hbg, (hb.block g (Array.getElem?_eq_some_iff.1 hg).1).trans hg, r⟩
  rcases h with h | h
  · exact .inl (key _ h)
  · exact .inr (key _ h)
theorem IsB.lt {B b : Nat} {bs : List UInt8} {w : World} (h : IsB B b bs w) : b < w.heap.size ∧ B ≤ b := by
  rcases h with h | h
  · exact ⟨h.lt, h.1⟩
  · exact ⟨h.lt, h.1⟩
abbrev boxO (o : Opt) (A1 : Option Addr) (n1 c1 : Nat) (A2 : Option Addr) (n2 c2 : Nat) : Obj := .cells #[.int .u16 (o.id : Int), .string (str o.space), .string (str o.name), .slice A1 n1 c1, .slice A2 n2 c2] 26
theorem OK8.box {b X : Nat} {w w' : World} {o : Opt} {A1 : Option Addr} {n1 c1 : Nat} {A2 : Option Addr} {n2 c2 : Nat} (h : OK8 b w w') (hx : w.heap[X]? = some (boxO o A1 n1 c1 A2 n2 c2)) (hne : X ≠ b) : w'.heap[X]? = some (boxO o A1 n1 c1 A2 n2 c2) :=
  h X _ hx (fun e => hne (by injection e)) fun c fz e => by injection e with _ e2; exact absurd e2 (by decide)
theorem box_new' (w : World) (o : Opt) (A1 : Option Addr) (n1 c1 : Nat) (A2 : Option Addr) (n2 c2 : Nat) : (w.alloc (boxO o A1 n1 c1 A2 n2 c2)).heap[w.heap.size]? = some (boxO o A1 n1 c1 A2 n2 c2) := heap_alloc_new w _
theorem box_cells {w : World} {X : Nat} {o : Opt} {A1 : Option Addr} {n1 c1 : Nat} {A2 : Option Addr} {n2 c2 : Nat} (h : w.heap[X]? = some (boxO o A1 n1 c1 A2 n2 c2)) :
    w.cell? ⟨X, 0, none⟩ = some (.int .u16 (o.id : Int)) ∧ w.cell? ⟨X, 1, none⟩ = some (.string (str o.space)) ∧ w.cell? ⟨X, 2, none⟩ = some (.string (str o.name)) ∧ w.cell? ⟨X, 3, none⟩ = some (.slice A1 n1 c1) ∧ w.cell? ⟨X, 4, none⟩ = some (.slice A2 n2 c2) :=
  ⟨by rw [Lib.cell_of_heap h]; rfl, by rw [Lib.cell_of_heap h]; rfl, by rw [Lib.cell_of_heap h]; rfl, by rw [Lib.cell_of_heap h]; rfl, by rw [Lib.cell_of_heap h]; rfl⟩
/-- what option.tell does at types of so many levels -/
def TellW (d : Nat) : Prop := ∀ {S : Nat → Prop} {M : Nat} {A1 : Option Addr} {n1 c1 : Nat} {A2 : Option Addr} {n2 c2 : Nat} {o : Opt} {w : World} {B b : Nat} {bs : List UInt8}, OptR S w M d A1 n1 c1 A2 n2 c2 o → (∀ x, S x → x < B) → IsB B b bs w → B ≤ w.heap.size → 0 < B → Pl w → bs.length + (tellD (d + 1) o).length ≤ 140737488355328 → Calls Tryd.prog 25 #[.pointer (some ⟨b, 0, none⟩), optV o A1 n1 c1 A2 n2 c2] w fun e w' => (e = .returned (.tuple #[])) ∧ IsB B b (bs ++ tellD (d + 1) o) w' ∧ Below B w w' ∧ OK8 b w w'
end Go.Proofs.Sb

/- Walk over option.tell, at some numbers. Conditions: lengths up to 2^47. (written by gen_opttell.py) -/
namespace Go.Proofs.Sb
open Go.RowKit _root_.Sb

set_option maxHeartbeats 4000000 in
set_option maxRecDepth 100000 in
theorem tellw_0 {d : Nat} (ih : ∀ e, e < d → TellW e) {S : Nat → Prop} {M : Nat} {A1 : Option Addr} {n1 c1 : Nat} {A2 : Option Addr} {n2 c2 : Nat} {o : Opt} {w : World} {B b : Nat} {bs : List UInt8} (ho : OptR S w M d A1 n1 c1 A2 n2 c2 o) (hS : ∀ x, S x → x < B) (hB : IsB B b bs w) (hBw : B ≤ w.heap.size) (hB0 : 0 < B) (hpl : Pl w) (hlen : bs.length + (tellD (d + 1) o).length ≤ 140737488355328) (h : Hid (o.id = 0)) :
    Calls Tryd.prog 25 #[.pointer (some ⟨b, 0, none⟩), optV o A1 n1 c1 A2 n2 c2] w fun e w' => (e = .returned (.tuple #[])) ∧ IsB B b (bs ++ tellD (d + 1) o) w' ∧ Below B w w' ∧ OK8 b w w' := by
  have hl2 := ho.kids.len
  have hid := ho.id
  have hcap2 := ho.kids.cap
  have hcm2 := ho.kids.capMax
  have HL2 := Lib.hid hl2; clear hl2
  have HO := Lib.hid ho; clear ho
  have HS := Lib.hid hS; clear hS
  have HPL := Lib.hid hpl; clear hpl
  have hbb := hB.lt
  have HB := Lib.hid hB; clear hB
  have htl : tellD (d + 1) o = 39 :: (o.name ++ [39]) := by rw [tell_0 h.out]; try simp
  rw [htl] at hlen
  have HTL := Lib.hid htl; clear htl
  have ha1 : ∀ w, (Op.stringOp .add (⟨#[39]⟩ : ByteArray) (str o.name)).run Tryd.prog w = .ok (.string (str (39 :: o.name))) w := add_str3 [39] o.name (by simp only [List.length_append, List.length_cons, List.length_nil] at *; omega)
  have ha2 : ∀ w, (Op.stringOp .add (str (39 :: o.name)) (⟨#[39]⟩ : ByteArray)).run Tryd.prog w = .ok (.string (str (39 :: (o.name ++ [39])))) w := add_str3 (39 :: o.name) [39] (by (try simp only [List.length_append, List.length_cons, List.length_nil] at *); omega)
  have p0 : (w.alloc (boxO o A1 n1 c1 A2 n2 c2)).cell? ⟨w.heap.size, 0, none⟩ = some (.int .u16 0) := by have h2 := (box_cells (box_new' w o A1 n1 c1 A2 n2 c2)).1; rw [h.out] at h2; exact h2
  go_enter Tryd.func25, Tryd.ntmps25
  go_wp2_with fail
  clear ha1 ha2
  generalize 39 :: (o.name ++ [39]) = tx at *
  refine (wstr_any (s := tx) (HB.out.after (by repeat (first | exact Below.refl _ _ | assumption | refine Below.drew ?_ | refine below_drewN ?_ _ | refine Below.alloc ?_ (by first | (simp; done) | omega | (simp; omega)) _ | refine Below.setCell ?_ (by first | (simp; done) | omega | (simp; omega)) _))) (by omega) (by first | omega | (simp; omega))).mono ?_
  rintro e1 w1 ⟨⟨v1, rfl⟩, hB1, hb1, ho1⟩
  go_wp2_with fail
  refine bodyPost_ret (v := .tuple #[]) (results_none rfl _ _ _) rfl ?_
  rw [HTL.out]
  exact ⟨rfl, hB1, Below.trans (by repeat (first | exact Below.refl _ _ | assumption | refine Below.drew ?_ | refine below_drewN ?_ _ | refine Below.alloc ?_ (by first | (simp; done) | omega | (simp; omega)) _ | refine Below.setCell ?_ (by first | (simp; done) | omega | (simp; omega)) _)) hb1, ((Lib.OthersKept.refl _ _ w).alloc _).trans ho1⟩

end Go.Proofs.Sb

/- Walk over option.tell, at some numbers. Conditions: lengths up to 2^47. (written by gen_opttell.py) -/
namespace Go.Proofs.Sb
open Go.RowKit _root_.Sb

set_option maxHeartbeats 4000000 in
set_option maxRecDepth 100000 in
theorem tellw_48 {d : Nat} (ih : ∀ e, e < d → TellW e) {S : Nat → Prop} {M : Nat} {A1 : Option Addr} {n1 c1 : Nat} {A2 : Option Addr} {n2 c2 : Nat} {o : Opt} {w : World} {B b : Nat} {bs : List UInt8} (ho : OptR S w M d A1 n1 c1 A2 n2 c2 o) (hS : ∀ x, S x → x < B) (hB : IsB B b bs w) (hBw : B ≤ w.heap.size) (hB0 : 0 < B) (hpl : Pl w) (hlen : bs.length + (tellD (d + 1) o).length ≤ 140737488355328) (h : Hid (o.id = 48)) :
    Calls Tryd.prog 25 #[.pointer (some ⟨b, 0, none⟩), optV o A1 n1 c1 A2 n2 c2] w fun e w' => (e = .returned (.tuple #[])) ∧ IsB B b (bs ++ tellD (d + 1) o) w' ∧ Below B w w' ∧ OK8 b w w' := by
  have hl2 := ho.kids.len
  have hid := ho.id
  have hcap2 := ho.kids.cap
  have hcm2 := ho.kids.capMax
  have HL2 := Lib.hid hl2; clear hl2
  have HO := Lib.hid ho; clear ho
  have HS := Lib.hid hS; clear hS
  have HPL := Lib.hid hpl; clear hpl
  have hbb := hB.lt
  have HB := Lib.hid hB; clear hB
  have htl : tellD (d + 1) o = o.space ++ 46 :: o.name := by rw [tell_48 h.out]; try simp
  rw [htl] at hlen
  have HTL := Lib.hid htl; clear htl
  have ha1 : ∀ w, (Op.stringOp .add (str o.space) (⟨#[46]⟩ : ByteArray)).run Tryd.prog w = .ok (.string (str (o.space ++ [46]))) w := add_str3 o.space [46] (by simp only [List.length_append, List.length_cons, List.length_nil] at *; omega)
  have ha2 : ∀ w, (Op.stringOp .add (str (o.space ++ [46])) (str o.name)).run Tryd.prog w = .ok (.string (str (o.space ++ 46 :: o.name))) w := by
    intro w
    have e48 : o.space ++ 46 :: o.name = (o.space ++ [46]) ++ o.name := by simp
    rw [e48]
    exact add_str3 (o.space ++ [46]) o.name (by simp only [List.length_append, List.length_cons, List.length_nil] at *; omega) w
  have p0 : (w.alloc (boxO o A1 n1 c1 A2 n2 c2)).cell? ⟨w.heap.size, 0, none⟩ = some (.int .u16 48) := by have h2 := (box_cells (box_new' w o A1 n1 c1 A2 n2 c2)).1; rw [h.out] at h2; exact h2
  go_enter Tryd.func25, Tryd.ntmps25
  go_wp2_with fail
  clear ha1 ha2
  generalize o.space ++ 46 :: o.name = tx at *
  refine (wstr_any (s := tx) (HB.out.after (by repeat (first | exact Below.refl _ _ | assumption | refine Below.drew ?_ | refine below_drewN ?_ _ | refine Below.alloc ?_ (by first | (simp; done) | omega | (simp; omega)) _ | refine Below.setCell ?_ (by first | (simp; done) | omega | (simp; omega)) _))) (by omega) (by first | omega | (simp; omega))).mono ?_
  rintro e1 w1 ⟨⟨v1, rfl⟩, hB1, hb1, ho1⟩
  go_wp2_with fail
  refine bodyPost_ret (v := .tuple #[]) (results_none rfl _ _ _) rfl ?_
  rw [HTL.out]
  exact ⟨rfl, hB1, Below.trans (by repeat (first | exact Below.refl _ _ | assumption | refine Below.drew ?_ | refine below_drewN ?_ _ | refine Below.alloc ?_ (by first | (simp; done) | omega | (simp; omega)) _ | refine Below.setCell ?_ (by first | (simp; done) | omega | (simp; omega)) _)) hb1, ((Lib.OthersKept.refl _ _ w).alloc _).trans ho1⟩

end Go.Proofs.Sb

/- Walk over option.tell, at some numbers. Conditions: lengths up to 2^47. (written by gen_opttell.py) -/
namespace Go.Proofs.Sb
open Go.RowKit _root_.Sb

set_option maxHeartbeats 4000000 in
set_option maxRecDepth 100000 in
theorem tellw_else {d : Nat} (ih : ∀ e, e < d → TellW e) {S : Nat → Prop} {M : Nat} {A1 : Option Addr} {n1 c1 : Nat} {A2 : Option Addr} {n2 c2 : Nat} {o : Opt} {w : World} {B b : Nat} {bs : List UInt8} (ho : OptR S w M d A1 n1 c1 A2 n2 c2 o) (hS : ∀ x, S x → x < B) (hB : IsB B b bs w) (hBw : B ≤ w.heap.size) (hB0 : 0 < B) (hpl : Pl w) (hlen : bs.length + (tellD (d + 1) o).length ≤ 140737488355328) (h : Hid (¬ (o.id = 0 ∨ o.id = 48 ∨ o.id = 32 ∨ o.id = 33 ∨ o.id = 34 ∨ o.id = 49))) :
    Calls Tryd.prog 25 #[.pointer (some ⟨b, 0, none⟩), optV o A1 n1 c1 A2 n2 c2] w fun e w' => (e = .returned (.tuple #[])) ∧ IsB B b (bs ++ tellD (d + 1) o) w' ∧ Below B w w' ∧ OK8 b w w' := by
  have hl2 := ho.kids.len
  have hid := ho.id
  have hcap2 := ho.kids.cap
  have hcm2 := ho.kids.capMax
  have HL2 := Lib.hid hl2; clear hl2
  have HO := Lib.hid ho; clear ho
  have HS := Lib.hid hS; clear hS
  have HPL := Lib.hid hpl; clear hpl
  have hbb := hB.lt
  have HB := Lib.hid hB; clear hB
  have htl := tell_else (d := d) h.out
  rw [htl] at hlen
  have HTL := Lib.hid htl; clear htl
  have hn := h.out
  simp only [not_or] at hn
  obtain ⟨i0, i48, i32, i33, i34, i49⟩ := hn
  go_enter Tryd.func25, Tryd.ntmps25
  go_wp2_with fail
  refine (name_any hid (HPL.out.after (by repeat (first | exact Below.refl _ _ | assumption | refine Below.drew ?_ | refine below_drewN ?_ _ | refine Below.alloc ?_ (by first | (simp; done) | omega | (simp; omega)) _ | refine Below.setCell ?_ (by first | (simp; done) | omega | (simp; omega)) _)))).mono ?_
  rintro e1 w1 ⟨rfl, hb1⟩
  have hb01 : Below w.heap.size w w1 := Below.trans (by repeat (first | exact Below.refl _ _ | assumption | refine Below.drew ?_ | refine below_drewN ?_ _ | refine Below.alloc ?_ (by first | (simp; done) | omega | (simp; omega)) _ | refine Below.setCell ?_ (by first | (simp; done) | omega | (simp; omega)) _)) (hb1.mono (by simp))
  have hsz1 := hb01.size
  go_wp2_with fail
  refine (wstr_any (s := nameB o.id) (HB.out.after hb01) (by omega) (by omega)).mono ?_
  rintro e2 w2 ⟨⟨v2, rfl⟩, hB2, hb2, ho2⟩
  go_wp2_with fail
  refine bodyPost_ret (v := .tuple #[]) (results_none rfl _ _ _) rfl ?_
  rw [HTL.out]
  exact ⟨rfl, hB2, (hb01.mono hBw).trans hb2, (fun k x hk hb hx => ho2 k x ((hb01.block k (Array.getElem?_eq_some_iff.1 hk).1).trans hk) hb hx)⟩

end Go.Proofs.Sb

/- Walk over option.tell, at some numbers. Conditions: lengths up to 2^47. (written by gen_opttell.py) -/
namespace Go.Proofs.Sb
open Go.RowKit _root_.Sb

set_option maxHeartbeats 4000000 in
set_option maxRecDepth 100000 in
theorem tellw_32 {d : Nat} (ih : ∀ e, e < d → TellW e) {S : Nat → Prop} {M : Nat} {A1 : Option Addr} {n1 c1 : Nat} {A2 : Option Addr} {n2 c2 : Nat} {o : Opt} {w : World} {B b : Nat} {bs : List UInt8} (ho : OptR S w M d A1 n1 c1 A2 n2 c2 o) (hS : ∀ x, S x → x < B) (hB : IsB B b bs w) (hBw : B ≤ w.heap.size) (hB0 : 0 < B) (hpl : Pl w) (hlen : bs.length + (tellD (d + 1) o).length ≤ 140737488355328) (h : Hid (o.id = 32)) :
    Calls Tryd.prog 25 #[.pointer (some ⟨b, 0, none⟩), optV o A1 n1 c1 A2 n2 c2] w fun e w' => (e = .returned (.tuple #[])) ∧ IsB B b (bs ++ tellD (d + 1) o) w' ∧ Below B w w' ∧ OK8 b w w' := by
  have hl2 := ho.kids.len
  have hid := ho.id
  have hcap2 := ho.kids.cap
  have hcm2 := ho.kids.capMax
  have HL2 := Lib.hid hl2; clear hl2
  have HO := Lib.hid ho; clear ho
  have HS := Lib.hid hS; clear hS
  have HPL := Lib.hid hpl; clear hpl
  have hbb := hB.lt
  have HB := Lib.hid hB; clear hB
  have htl : tellD (d + 1) o = wList ++ [60] ++ joinB (o.kids.map (tellD d)) ++ [62] := by rw [tell_comp (.inl h.out), h.out]; rfl
  rw [htl] at hlen
  have HTL := Lib.hid htl; clear htl
  have hlt : bs.length + wList.length + 2 + (joinB (o.kids.map (tellD d))).length ≤ 140737488355328 := by simp only [List.length_append, List.length_cons, List.length_nil] at hlen; omega
  have HLT := Lib.hid hlt; clear hlt hlen
  have p0 : (w.alloc (boxO o A1 n1 c1 A2 n2 c2)).cell? ⟨w.heap.size, 0, none⟩ = some (.int .u16 32) := by have h2 := (box_cells (box_new' w o A1 n1 c1 A2 n2 c2)).1; rw [h.out] at h2; exact h2
  go_enter Tryd.func25, Tryd.ntmps25
  go_wp2_with fail
  refine (wstr_any (s := wList) (HB.out.after (by repeat (first | exact Below.refl _ _ | assumption | refine Below.drew ?_ | refine below_drewN ?_ _ | refine Below.alloc ?_ (by first | (simp; done) | omega | (simp; omega)) _ | refine Below.setCell ?_ (by first | (simp; done) | omega | (simp; omega)) _))) (by have := HLT.out; (try simp only [List.length_append, List.length_cons, List.length_nil] at *); omega) (by first | omega | (simp; omega))).mono ?_
  rintro e1 w1 ⟨⟨v1, rfl⟩, hB1, hb1, ho1⟩
  have hx1 := OK8.box ho1 (box_new' w o A1 n1 c1 A2 n2 c2) (by omega)
  replace hb1 : Below B w w1 := Below.trans (by repeat (first | exact Below.refl _ _ | assumption | refine Below.drew ?_ | refine below_drewN ?_ _ | refine Below.alloc ?_ (by first | (simp; done) | omega | (simp; omega)) _ | refine Below.setCell ?_ (by first | (simp; done) | omega | (simp; omega)) _)) hb1
  replace ho1 : OK8 b w w1 := ((Lib.OthersKept.refl _ _ w).alloc _).trans ho1
  have hz1 := hb1.size
  have HB1 := Lib.hid hB1; clear hB1
  go_wp2_with fail
  refine (wstr_any (s := [60]) HB1.out (by have := HLT.out; (try simp only [List.length_append, List.length_cons, List.length_nil] at *); omega) (by omega)).mono ?_
  rintro e2 w2 ⟨⟨v2, rfl⟩, hB2, hb2, ho2⟩
  have hx2 := OK8.box ho2 hx1 (by omega)
  replace hb2 : Below B w w2 := hb1.trans hb2
  replace ho2 : OK8 b w w2 := ho1.trans ho2
  have hz2 := hb2.size
  have HB2 := Lib.hid hB2; clear hB2
  have HX2 := Lib.hid hx2; clear hx2 hx1
  have HO2 := Lib.hid ho2; clear ho2 ho1
  have p4 := (box_cells HX2.out).2.2.2.2
  go_wp2_with fail
  go_loopw [52] (fun i wr => ∃ k : Nat, k ≤ n2 ∧ i = .int .i64 (k : Nat) ∧ Hid (IsB B b (bs ++ wList ++ [60] ++ joinB ((o.kids.take k).map (tellD d))) wr) ∧ Below B w wr ∧ Hid (wr.heap[w.heap.size]? = some (boxO o A1 n1 c1 A2 n2 c2)) ∧ Hid (OK8 b w wr) ∧ w.heap.size < wr.heap.size) (fun i _ => n2 - (intOf i).toNat)
  case atStart => exact ⟨0, by omega, rfl, by (have h1 := HB2.out; simp only [List.take_zero, List.map_nil, joinB, List.append_nil]; exact h1), hb2, HX2, HO2, (Array.getElem?_eq_some_iff.1 HX2.out).1⟩
  case round =>
    obtain ⟨k, hk, rfl, HBr, hbr, HXr, HOr, hzr⟩ := hrel
    by_cases hlt : k < n2
    · obtain ⟨x, hx⟩ : ∃ x, o.kids[k]? = some x := ⟨_, List.getElem?_eq_getElem (by have := HL2.out; omega)⟩
      have HS1 := Lib.hid (HO.out.kids.below hbr fun x hx _ => HS.out x hx)
      obtain ⟨b', off, rfl, hSb, hbs, HC⟩ := HS1.out.at (by decide) (by omega)
      obtain ⟨v, hv1, hp, hv2⟩ := HC k x hx
      obtain ⟨e, B1, m1, d1, B2, m2, d2, rfl, rfl, hR⟩ := hp.open
      have hc0 := hv2 0 _ rfl
      have hc1 := hv2 1 _ rfl
      have hc2 := hv2 2 _ rfl
      have hc3 := hv2 3 _ rfl
      have hc4 := hv2 4 _ rfl
      simp only [Nat.add_zero] at hc0
      clear hv1 hv2 HC
      have HX := Lib.hid hx; clear hx
      have HR := Lib.hid hR; clear hR
      have HRO := Lib.hid (join_room (g := tellD (e + 1)) HX.out)
      have HST := Lib.hid (join_step (g := tellD (e + 1)) HX.out)
      by_cases hk0 : 0 < k
      · have HRO2 := HRO.out
        rw [if_pos hk0] at HRO2
        have HR2 := Lib.hid HRO2; clear HRO2
        have HST2 := HST.out
        rw [if_pos hk0] at HST2
        have HS2 := Lib.hid HST2; clear HST2
        go_wp2_with fail
        refine (wstr_any (s := sepB) (HBr.out.after (by repeat (first | exact Below.refl _ _ | assumption | refine Below.drew ?_ | refine below_drewN ?_ _ | refine Below.alloc ?_ (by first | (simp; done) | omega | (simp; omega)) _ | refine Below.setCell ?_ (by first | (simp; done) | omega | (simp; omega)) _))) (by have := HLT.out; have := HR2.out; (try simp only [List.length_append, List.length_cons, List.length_nil] at *); omega) (by first | omega | (simp; omega))).mono ?_
        rintro e3 w3 ⟨⟨v3, rfl⟩, hB3, hb3, ho3⟩
        have hk3 := OK8.box ho3 (box_new' wr x B1 m1 d1 B2 m2 d2) (by have := HBr.out.lt; omega)
        have hx3 := OK8.box ho3 (((Below.refl wr.heap.size wr).alloc (Nat.le_refl _) (boxO x B1 m1 d1 B2 m2 d2)).block _ hzr |>.trans HXr.out) (by omega)
        replace hb3 : Below B wr w3 := Below.trans (by repeat (first | exact Below.refl _ _ | assumption | refine Below.drew ?_ | refine below_drewN ?_ _ | refine Below.alloc ?_ (by first | (simp; done) | omega | (simp; omega)) _ | refine Below.setCell ?_ (by first | (simp; done) | omega | (simp; omega)) _)) hb3
        replace ho3 : OK8 b wr w3 := ((Lib.OthersKept.refl _ _ wr).alloc _).trans ho3
        have hz3 := hb3.size
        have q := box_cells hk3
        have q0 := q.1
        have q1 := q.2.1
        have q2 := q.2.2.1
        have q3 := q.2.2.2.1
        have q4 := q.2.2.2.2
        have HB3 := Lib.hid hB3; clear hB3
        have HX3 := Lib.hid hx3; clear hx3 q hk3
        have HO3 := Lib.hid ho3; clear ho3
        go_wp2_with fail
        refine (ih e (by omega) (HR.out.keep ((hbr.trans hb3).size) (fun x hx _ => (hbr.trans hb3).block x (HS.out x hx))) HS.out HB3.out (by omega) hB0 (HPL.out.keep ((hbr.trans hb3).block 0 hB0)) (by have := HLT.out; have := HR2.out; (try simp only [List.length_append, List.length_cons, List.length_nil] at *); omega)).mono ?_
        rintro e4 w4 ⟨rfl, hB4, hb4, ho4⟩
        have hx4 := OK8.box ho4 HX3.out (by omega)
        have hl4 := (Array.getElem?_eq_some_iff.1 hx4).1
        clear q0 q1 q2 q3 q4 hc0 hc1 hc2 hc3 hc4
        go_wp2_with fail
        refine ⟨⟨k + 1, by omega, by go_num, by rw [HS2.out]; (have h1 := hB4; simp only [List.append_assoc] at h1 ⊢; exact h1), hbr.trans (hb3.trans hb4), hx4, HOr.out.trans (HO3.out.trans ho4), hl4⟩, by simp [intOf]; omega⟩
      · obtain rfl : k = 0 := by omega
        simp only [Nat.zero_mul, Nat.add_zero] at hc0 hc1 hc2 hc3 hc4
        have HRO2 := HRO.out
        rw [if_neg hk0] at HRO2
        have HR2 := Lib.hid HRO2; clear HRO2
        have HST2 := HST.out
        rw [if_neg hk0] at HST2
        have HS2 := Lib.hid HST2; clear HST2
        go_wp2_with fail
        refine (ih e (by omega) ((HR.out.keep hbr.size (fun x hx _ => hbr.block x (HS.out x hx))).after (by repeat (first | exact Below.refl _ _ | assumption | refine Below.drew ?_ | refine below_drewN ?_ _ | refine Below.alloc ?_ (by first | (simp; done) | omega | (simp; omega)) _ | refine Below.setCell ?_ (by first | (simp; done) | omega | (simp; omega)) _))) HS.out (HBr.out.after (by repeat (first | exact Below.refl _ _ | assumption | refine Below.drew ?_ | refine below_drewN ?_ _ | refine Below.alloc ?_ (by first | (simp; done) | omega | (simp; omega)) _ | refine Below.setCell ?_ (by first | (simp; done) | omega | (simp; omega)) _))) (by first | omega | (simp; omega)) hB0 ((HPL.out.keep (hbr.block 0 hB0)).after (by repeat (first | exact Below.refl _ _ | assumption | refine Below.drew ?_ | refine below_drewN ?_ _ | refine Below.alloc ?_ (by first | (simp; done) | omega | (simp; omega)) _ | refine Below.setCell ?_ (by first | (simp; done) | omega | (simp; omega)) _))) (by have := HLT.out; have := HR2.out; (try simp only [List.length_append, List.length_cons, List.length_nil] at *); omega)).mono ?_
        rintro e4 w4 ⟨rfl, hB4, hb4, ho4⟩
        have hx4 := OK8.box ho4 (((Below.refl wr.heap.size wr).alloc (Nat.le_refl _) (boxO x B1 m1 d1 B2 m2 d2)).block _ hzr |>.trans HXr.out) (by omega)
        have hl4 := (Array.getElem?_eq_some_iff.1 hx4).1
        replace hb4 : Below B wr w4 := Below.trans (by repeat (first | exact Below.refl _ _ | assumption | refine Below.drew ?_ | refine below_drewN ?_ _ | refine Below.alloc ?_ (by first | (simp; done) | omega | (simp; omega)) _ | refine Below.setCell ?_ (by first | (simp; done) | omega | (simp; omega)) _)) hb4
        replace ho4 : OK8 b wr w4 := ((Lib.OthersKept.refl _ _ wr).alloc _).trans ho4
        clear hc0 hc1 hc2 hc3 hc4
        go_wp2_with fail
        refine ⟨⟨1, by omega, by go_num, by have h1 := HS2.out; simp only [Nat.zero_add] at h1; rw [h1]; (have h2 := hB4; simp only [List.append_assoc, List.nil_append] at h2 ⊢; exact h2), hbr.trans hb4, hx4, HOr.out.trans ho4, hl4⟩, by simp [intOf]; omega⟩
    · obtain rfl : k = n2 := by omega
      have h0 : o.kids.take k = o.kids := List.take_of_length_le (by have := HL2.out; omega)
      have hBe := HBr.out
      rw [h0] at hBe
      have HBe := Lib.hid hBe; clear hBe h0
      have hsr := hbr.size
      go_wp2_with fail
      refine (wstr_any (s := [62]) HBe.out (by have := HLT.out; (try simp only [List.length_append, List.length_cons, List.length_nil] at *); omega) (by omega)).mono ?_
      rintro e3 w3 ⟨⟨v3, rfl⟩, hB3, hb3, ho3⟩
      go_wp2_with fail
      refine bodyPost_end (results_none rfl _ _ _) rfl ?_
      rw [HTL.out]
      exact ⟨rfl, by simpa using hB3, hbr.trans hb3, HOr.out.trans ho3⟩

end Go.Proofs.Sb

/- Walk over option.tell, at some numbers. Conditions: lengths up to 2^47. (written by gen_opttell.py) -/
namespace Go.Proofs.Sb
open Go.RowKit _root_.Sb

set_option maxHeartbeats 4000000 in
set_option maxRecDepth 100000 in
theorem tellw_33 {d : Nat} (ih : ∀ e, e < d → TellW e) {S : Nat → Prop} {M : Nat} {A1 : Option Addr} {n1 c1 : Nat} {A2 : Option Addr} {n2 c2 : Nat} {o : Opt} {w : World} {B b : Nat} {bs : List UInt8} (ho : OptR S w M d A1 n1 c1 A2 n2 c2 o) (hS : ∀ x, S x → x < B) (hB : IsB B b bs w) (hBw : B ≤ w.heap.size) (hB0 : 0 < B) (hpl : Pl w) (hlen : bs.length + (tellD (d + 1) o).length ≤ 140737488355328) (h : Hid (o.id = 33)) :
    Calls Tryd.prog 25 #[.pointer (some ⟨b, 0, none⟩), optV o A1 n1 c1 A2 n2 c2] w fun e w' => (e = .returned (.tuple #[])) ∧ IsB B b (bs ++ tellD (d + 1) o) w' ∧ Below B w w' ∧ OK8 b w w' := by
  have hl2 := ho.kids.len
  have hid := ho.id
  have hcap2 := ho.kids.cap
  have hcm2 := ho.kids.capMax
  have HL2 := Lib.hid hl2; clear hl2
  have HO := Lib.hid ho; clear ho
  have HS := Lib.hid hS; clear hS
  have HPL := Lib.hid hpl; clear hpl
  have hbb := hB.lt
  have HB := Lib.hid hB; clear hB
  have htl : tellD (d + 1) o = wMap ++ [60] ++ joinB (o.kids.map (tellD d)) ++ [62] := by rw [tell_comp (.inr (.inl h.out)), h.out]; rfl
  rw [htl] at hlen
  have HTL := Lib.hid htl; clear htl
  have hlt : bs.length + wMap.length + 2 + (joinB (o.kids.map (tellD d))).length ≤ 140737488355328 := by simp only [List.length_append, List.length_cons, List.length_nil] at hlen; omega
  have HLT := Lib.hid hlt; clear hlt hlen
  have p0 : (w.alloc (boxO o A1 n1 c1 A2 n2 c2)).cell? ⟨w.heap.size, 0, none⟩ = some (.int .u16 33) := by have h2 := (box_cells (box_new' w o A1 n1 c1 A2 n2 c2)).1; rw [h.out] at h2; exact h2
  go_enter Tryd.func25, Tryd.ntmps25
  go_wp2_with fail
  refine (wstr_any (s := wMap) (HB.out.after (by repeat (first | exact Below.refl _ _ | assumption | refine Below.drew ?_ | refine below_drewN ?_ _ | refine Below.alloc ?_ (by first | (simp; done) | omega | (simp; omega)) _ | refine Below.setCell ?_ (by first | (simp; done) | omega | (simp; omega)) _))) (by have := HLT.out; (try simp only [List.length_append, List.length_cons, List.length_nil] at *); omega) (by first | omega | (simp; omega))).mono ?_
  rintro e1 w1 ⟨⟨v1, rfl⟩, hB1, hb1, ho1⟩
  have hx1 := OK8.box ho1 (box_new' w o A1 n1 c1 A2 n2 c2) (by omega)
  replace hb1 : Below B w w1 := Below.trans (by repeat (first | exact Below.refl _ _ | assumption | refine Below.drew ?_ | refine below_drewN ?_ _ | refine Below.alloc ?_ (by first | (simp; done) | omega | (simp; omega)) _ | refine Below.setCell ?_ (by first | (simp; done) | omega | (simp; omega)) _)) hb1
  replace ho1 : OK8 b w w1 := ((Lib.OthersKept.refl _ _ w).alloc _).trans ho1
  have hz1 := hb1.size
  have HB1 := Lib.hid hB1; clear hB1
  go_wp2_with fail
  refine (wstr_any (s := [60]) HB1.out (by have := HLT.out; (try simp only [List.length_append, List.length_cons, List.length_nil] at *); omega) (by omega)).mono ?_
  rintro e2 w2 ⟨⟨v2, rfl⟩, hB2, hb2, ho2⟩
  have hx2 := OK8.box ho2 hx1 (by omega)
  replace hb2 : Below B w w2 := hb1.trans hb2
  replace ho2 : OK8 b w w2 := ho1.trans ho2
  have hz2 := hb2.size
  have HB2 := Lib.hid hB2; clear hB2
  have HX2 := Lib.hid hx2; clear hx2 hx1
  have HO2 := Lib.hid ho2; clear ho2 ho1
  have p4 := (box_cells HX2.out).2.2.2.2
  go_wp2_with fail
  go_loopw [52] (fun i wr => ∃ k : Nat, k ≤ n2 ∧ i = .int .i64 (k : Nat) ∧ Hid (IsB B b (bs ++ wMap ++ [60] ++ joinB ((o.kids.take k).map (tellD d))) wr) ∧ Below B w wr ∧ Hid (wr.heap[w.heap.size]? = some (boxO o A1 n1 c1 A2 n2 c2)) ∧ Hid (OK8 b w wr) ∧ w.heap.size < wr.heap.size) (fun i _ => n2 - (intOf i).toNat)
  case atStart => exact ⟨0, by omega, rfl, by (have h1 := HB2.out; simp only [List.take_zero, List.map_nil, joinB, List.append_nil]; exact h1), hb2, HX2, HO2, (Array.getElem?_eq_some_iff.1 HX2.out).1⟩
  case round =>
    obtain ⟨k, hk, rfl, HBr, hbr, HXr, HOr, hzr⟩ := hrel
    by_cases hlt : k < n2
    · obtain ⟨x, hx⟩ : ∃ x, o.kids[k]? = some x := ⟨_, List.getElem?_eq_getElem (by have := HL2.out; omega)⟩
      have HS1 := Lib.hid (HO.out.kids.below hbr fun x hx _ => HS.out x hx)
      obtain ⟨b', off, rfl, hSb, hbs, HC⟩ := HS1.out.at (by decide) (by omega)
      obtain ⟨v, hv1, hp, hv2⟩ := HC k x hx
      obtain ⟨e, B1, m1, d1, B2, m2, d2, rfl, rfl, hR⟩ := hp.open
      have hc0 := hv2 0 _ rfl
      have hc1 := hv2 1 _ rfl
      have hc2 := hv2 2 _ rfl
      have hc3 := hv2 3 _ rfl
      have hc4 := hv2 4 _ rfl
      simp only [Nat.add_zero] at hc0
      clear hv1 hv2 HC
      have HX := Lib.hid hx; clear hx
      have HR := Lib.hid hR; clear hR
      have HRO := Lib.hid (join_room (g := tellD (e + 1)) HX.out)
      have HST := Lib.hid (join_step (g := tellD (e + 1)) HX.out)
      by_cases hk0 : 0 < k
      · have HRO2 := HRO.out
        rw [if_pos hk0] at HRO2
        have HR2 := Lib.hid HRO2; clear HRO2
        have HST2 := HST.out
        rw [if_pos hk0] at HST2
        have HS2 := Lib.hid HST2; clear HST2
        go_wp2_with fail
        refine (wstr_any (s := sepB) (HBr.out.after (by repeat (first | exact Below.refl _ _ | assumption | refine Below.drew ?_ | refine below_drewN ?_ _ | refine Below.alloc ?_ (by first | (simp; done) | omega | (simp; omega)) _ | refine Below.setCell ?_ (by first | (simp; done) | omega | (simp; omega)) _))) (by have := HLT.out; have := HR2.out; (try simp only [List.length_append, List.length_cons, List.length_nil] at *); omega) (by first | omega | (simp; omega))).mono ?_
        rintro e3 w3 ⟨⟨v3, rfl⟩, hB3, hb3, ho3⟩
        have hk3 := OK8.box ho3 (box_new' wr x B1 m1 d1 B2 m2 d2) (by have := HBr.out.lt; omega)
        have hx3 := OK8.box ho3 (((Below.refl wr.heap.size wr).alloc (Nat.le_refl _) (boxO x B1 m1 d1 B2 m2 d2)).block _ hzr |>.trans HXr.out) (by omega)
        replace hb3 : Below B wr w3 := Below.trans (by repeat (first | exact Below.refl _ _ | assumption | refine Below.drew ?_ | refine below_drewN ?_ _ | refine Below.alloc ?_ (by first | (simp; done) | omega | (simp; omega)) _ | refine Below.setCell ?_ (by first | (simp; done) | omega | (simp; omega)) _)) hb3
        replace ho3 : OK8 b wr w3 := ((Lib.OthersKept.refl _ _ wr).alloc _).trans ho3
        have hz3 := hb3.size
        have q := box_cells hk3
        have q0 := q.1
        have q1 := q.2.1
        have q2 := q.2.2.1
        have q3 := q.2.2.2.1
        have q4 := q.2.2.2.2
        have HB3 := Lib.hid hB3; clear hB3
        have HX3 := Lib.hid hx3; clear hx3 q hk3
        have HO3 := Lib.hid ho3; clear ho3
        go_wp2_with fail
        refine (ih e (by omega) (HR.out.keep ((hbr.trans hb3).size) (fun x hx _ => (hbr.trans hb3).block x (HS.out x hx))) HS.out HB3.out (by omega) hB0 (HPL.out.keep ((hbr.trans hb3).block 0 hB0)) (by have := HLT.out; have := HR2.out; (try simp only [List.length_append, List.length_cons, List.length_nil] at *); omega)).mono ?_
        rintro e4 w4 ⟨rfl, hB4, hb4, ho4⟩
        have hx4 := OK8.box ho4 HX3.out (by omega)
        have hl4 := (Array.getElem?_eq_some_iff.1 hx4).1
        clear q0 q1 q2 q3 q4 hc0 hc1 hc2 hc3 hc4
        go_wp2_with fail
        refine ⟨⟨k + 1, by omega, by go_num, by rw [HS2.out]; (have h1 := hB4; simp only [List.append_assoc] at h1 ⊢; exact h1), hbr.trans (hb3.trans hb4), hx4, HOr.out.trans (HO3.out.trans ho4), hl4⟩, by simp [intOf]; omega⟩
      · obtain rfl : k = 0 := by omega
        simp only [Nat.zero_mul, Nat.add_zero] at hc0 hc1 hc2 hc3 hc4
        have HRO2 := HRO.out
        rw [if_neg hk0] at HRO2
        have HR2 := Lib.hid HRO2; clear HRO2
        have HST2 := HST.out
        rw [if_neg hk0] at HST2
        have HS2 := Lib.hid HST2; clear HST2
        go_wp2_with fail
        refine (ih e (by omega) ((HR.out.keep hbr.size (fun x hx _ => hbr.block x (HS.out x hx))).after (by repeat (first | exact Below.refl _ _ | assumption | refine Below.drew ?_ | refine below_drewN ?_ _ | refine Below.alloc ?_ (by first | (simp; done) | omega | (simp; omega)) _ | refine Below.setCell ?_ (by first | (simp; done) | omega | (simp; omega)) _))) HS.out (HBr.out.after (by repeat (first | exact Below.refl _ _ | assumption | refine Below.drew ?_ | refine below_drewN ?_ _ | refine Below.alloc ?_ (by first | (simp; done) | omega | (simp; omega)) _ | refine Below.setCell ?_ (by first | (simp; done) | omega | (simp; omega)) _))) (by first | omega | (simp; omega)) hB0 ((HPL.out.keep (hbr.block 0 hB0)).after (by repeat (first | exact Below.refl _ _ | assumption | refine Below.drew ?_ | refine below_drewN ?_ _ | refine Below.alloc ?_ (by first | (simp; done) | omega | (simp; omega)) _ | refine Below.setCell ?_ (by first | (simp; done) | omega | (simp; omega)) _))) (by have := HLT.out; have := HR2.out; (try simp only [List.length_append, List.length_cons, List.length_nil] at *); omega)).mono ?_
        rintro e4 w4 ⟨rfl, hB4, hb4, ho4⟩
        have hx4 := OK8.box ho4 (((Below.refl wr.heap.size wr).alloc (Nat.le_refl _) (boxO x B1 m1 d1 B2 m2 d2)).block _ hzr |>.trans HXr.out) (by omega)
        have hl4 := (Array.getElem?_eq_some_iff.1 hx4).1
        replace hb4 : Below B wr w4 := Below.trans (by repeat (first | exact Below.refl _ _ | assumption | refine Below.drew ?_ | refine below_drewN ?_ _ | refine Below.alloc ?_ (by first | (simp; done) | omega | (simp; omega)) _ | refine Below.setCell ?_ (by first | (simp; done) | omega | (simp; omega)) _)) hb4
        replace ho4 : OK8 b wr w4 := ((Lib.OthersKept.refl _ _ wr).alloc _).trans ho4
        clear hc0 hc1 hc2 hc3 hc4
        go_wp2_with fail
        refine ⟨⟨1, by omega, by go_num, by have h1 := HS2.out; simp only [Nat.zero_add] at h1; rw [h1]; (have h2 := hB4; simp only [List.append_assoc, List.nil_append] at h2 ⊢; exact h2), hbr.trans hb4, hx4, HOr.out.trans ho4, hl4⟩, by simp [intOf]; omega⟩
    · obtain rfl : k = n2 := by omega
      have h0 : o.kids.take k = o.kids := List.take_of_length_le (by have := HL2.out; omega)
      have hBe := HBr.out
      rw [h0] at hBe
      have HBe := Lib.hid hBe; clear hBe h0
      have hsr := hbr.size
      go_wp2_with fail
      refine (wstr_any (s := [62]) HBe.out (by have := HLT.out; (try simp only [List.length_append, List.length_cons, List.length_nil] at *); omega) (by omega)).mono ?_
      rintro e3 w3 ⟨⟨v3, rfl⟩, hB3, hb3, ho3⟩
      go_wp2_with fail
      refine bodyPost_end (results_none rfl _ _ _) rfl ?_
      rw [HTL.out]
      exact ⟨rfl, by simpa using hB3, hbr.trans hb3, HOr.out.trans ho3⟩

end Go.Proofs.Sb

/- Walk over option.tell, at some numbers. Conditions: lengths up to 2^47. (written by gen_opttell.py) -/
namespace Go.Proofs.Sb
open Go.RowKit _root_.Sb

set_option maxHeartbeats 4000000 in
set_option maxRecDepth 100000 in
theorem tellw_34 {d : Nat} (ih : ∀ e, e < d → TellW e) {S : Nat → Prop} {M : Nat} {A1 : Option Addr} {n1 c1 : Nat} {A2 : Option Addr} {n2 c2 : Nat} {o : Opt} {w : World} {B b : Nat} {bs : List UInt8} (ho : OptR S w M d A1 n1 c1 A2 n2 c2 o) (hS : ∀ x, S x → x < B) (hB : IsB B b bs w) (hBw : B ≤ w.heap.size) (hB0 : 0 < B) (hpl : Pl w) (hlen : bs.length + (tellD (d + 1) o).length ≤ 140737488355328) (h : Hid (o.id = 34)) :
    Calls Tryd.prog 25 #[.pointer (some ⟨b, 0, none⟩), optV o A1 n1 c1 A2 n2 c2] w fun e w' => (e = .returned (.tuple #[])) ∧ IsB B b (bs ++ tellD (d + 1) o) w' ∧ Below B w w' ∧ OK8 b w w' := by
  have hl2 := ho.kids.len
  have hid := ho.id
  have hcap2 := ho.kids.cap
  have hcm2 := ho.kids.capMax
  have HL2 := Lib.hid hl2; clear hl2
  have HO := Lib.hid ho; clear ho
  have HS := Lib.hid hS; clear hS
  have HPL := Lib.hid hpl; clear hpl
  have hbb := hB.lt
  have HB := Lib.hid hB; clear hB
  have htl : tellD (d + 1) o = wSet ++ [60] ++ joinB (o.kids.map (tellD d)) ++ [62] := by rw [tell_comp (.inr (.inr (.inl h.out))), h.out]; rfl
  rw [htl] at hlen
  have HTL := Lib.hid htl; clear htl
  have hlt : bs.length + wSet.length + 2 + (joinB (o.kids.map (tellD d))).length ≤ 140737488355328 := by simp only [List.length_append, List.length_cons, List.length_nil] at hlen; omega
  have HLT := Lib.hid hlt; clear hlt hlen
  have p0 : (w.alloc (boxO o A1 n1 c1 A2 n2 c2)).cell? ⟨w.heap.size, 0, none⟩ = some (.int .u16 34) := by have h2 := (box_cells (box_new' w o A1 n1 c1 A2 n2 c2)).1; rw [h.out] at h2; exact h2
  go_enter Tryd.func25, Tryd.ntmps25
  go_wp2_with fail
  refine (wstr_any (s := wSet) (HB.out.after (by repeat (first | exact Below.refl _ _ | assumption | refine Below.drew ?_ | refine below_drewN ?_ _ | refine Below.alloc ?_ (by first | (simp; done) | omega | (simp; omega)) _ | refine Below.setCell ?_ (by first | (simp; done) | omega | (simp; omega)) _))) (by have := HLT.out; (try simp only [List.length_append, List.length_cons, List.length_nil] at *); omega) (by first | omega | (simp; omega))).mono ?_
  rintro e1 w1 ⟨⟨v1, rfl⟩, hB1, hb1, ho1⟩
  have hx1 := OK8.box ho1 (box_new' w o A1 n1 c1 A2 n2 c2) (by omega)
  replace hb1 : Below B w w1 := Below.trans (by repeat (first | exact Below.refl _ _ | assumption | refine Below.drew ?_ | refine below_drewN ?_ _ | refine Below.alloc ?_ (by first | (simp; done) | omega | (simp; omega)) _ | refine Below.setCell ?_ (by first | (simp; done) | omega | (simp; omega)) _)) hb1
  replace ho1 : OK8 b w w1 := ((Lib.OthersKept.refl _ _ w).alloc _).trans ho1
  have hz1 := hb1.size
  have HB1 := Lib.hid hB1; clear hB1
  go_wp2_with fail
  refine (wstr_any (s := [60]) HB1.out (by have := HLT.out; (try simp only [List.length_append, List.length_cons, List.length_nil] at *); omega) (by omega)).mono ?_
  rintro e2 w2 ⟨⟨v2, rfl⟩, hB2, hb2, ho2⟩
  have hx2 := OK8.box ho2 hx1 (by omega)
  replace hb2 : Below B w w2 := hb1.trans hb2
  replace ho2 : OK8 b w w2 := ho1.trans ho2
  have hz2 := hb2.size
  have HB2 := Lib.hid hB2; clear hB2
  have HX2 := Lib.hid hx2; clear hx2 hx1
  have HO2 := Lib.hid ho2; clear ho2 ho1
  have p4 := (box_cells HX2.out).2.2.2.2
  go_wp2_with fail
  go_loopw [52] (fun i wr => ∃ k : Nat, k ≤ n2 ∧ i = .int .i64 (k : Nat) ∧ Hid (IsB B b (bs ++ wSet ++ [60] ++ joinB ((o.kids.take k).map (tellD d))) wr) ∧ Below B w wr ∧ Hid (wr.heap[w.heap.size]? = some (boxO o A1 n1 c1 A2 n2 c2)) ∧ Hid (OK8 b w wr) ∧ w.heap.size < wr.heap.size) (fun i _ => n2 - (intOf i).toNat)
  case atStart => exact ⟨0, by omega, rfl, by (have h1 := HB2.out; simp only [List.take_zero, List.map_nil, joinB, List.append_nil]; exact h1), hb2, HX2, HO2, (Array.getElem?_eq_some_iff.1 HX2.out).1⟩
  case round =>
    obtain ⟨k, hk, rfl, HBr, hbr, HXr, HOr, hzr⟩ := hrel
    by_cases hlt : k < n2
    · obtain ⟨x, hx⟩ : ∃ x, o.kids[k]? = some x := ⟨_, List.getElem?_eq_getElem (by have := HL2.out; omega)⟩
      have HS1 := Lib.hid (HO.out.kids.below hbr fun x hx _ => HS.out x hx)
      obtain ⟨b', off, rfl, hSb, hbs, HC⟩ := HS1.out.at (by decide) (by omega)
      obtain ⟨v, hv1, hp, hv2⟩ := HC k x hx
      obtain ⟨e, B1, m1, d1, B2, m2, d2, rfl, rfl, hR⟩ := hp.open
      have hc0 := hv2 0 _ rfl
      have hc1 := hv2 1 _ rfl
      have hc2 := hv2 2 _ rfl
      have hc3 := hv2 3 _ rfl
      have hc4 := hv2 4 _ rfl
      simp only [Nat.add_zero] at hc0
      clear hv1 hv2 HC
      have HX := Lib.hid hx; clear hx
      have HR := Lib.hid hR; clear hR
      have HRO := Lib.hid (join_room (g := tellD (e + 1)) HX.out)
      have HST := Lib.hid (join_step (g := tellD (e + 1)) HX.out)
      by_cases hk0 : 0 < k
      · have HRO2 := HRO.out
        rw [if_pos hk0] at HRO2
        have HR2 := Lib.hid HRO2; clear HRO2
        have HST2 := HST.out
        rw [if_pos hk0] at HST2
        have HS2 := Lib.hid HST2; clear HST2
        go_wp2_with fail
        refine (wstr_any (s := sepB) (HBr.out.after (by repeat (first | exact Below.refl _ _ | assumption | refine Below.drew ?_ | refine below_drewN ?_ _ | refine Below.alloc ?_ (by first | (simp; done) | omega | (simp; omega)) _ | refine Below.setCell ?_ (by first | (simp; done) | omega | (simp; omega)) _))) (by have := HLT.out; have := HR2.out; (try simp only [List.length_append, List.length_cons, List.length_nil] at *); omega) (by first | omega | (simp; omega))).mono ?_
        rintro e3 w3 ⟨⟨v3, rfl⟩, hB3, hb3, ho3⟩
        have hk3 := OK8.box ho3 (box_new' wr x B1 m1 d1 B2 m2 d2) (by have := HBr.out.lt; omega)
        have hx3 := OK8.box ho3 (((Below.refl wr.heap.size wr).alloc (Nat.le_refl _) (boxO x B1 m1 d1 B2 m2 d2)).block _ hzr |>.trans HXr.out) (by omega)
        replace hb3 : Below B wr w3 := Below.trans (by repeat (first | exact Below.refl _ _ | assumption | refine Below.drew ?_ | refine below_drewN ?_ _ | refine Below.alloc ?_ (by first | (simp; done) | omega | (simp; omega)) _ | refine Below.setCell ?_ (by first | (simp; done) | omega | (simp; omega)) _)) hb3
        replace ho3 : OK8 b wr w3 := ((Lib.OthersKept.refl _ _ wr).alloc _).trans ho3
        have hz3 := hb3.size
        have q := box_cells hk3
        have q0 := q.1
        have q1 := q.2.1
        have q2 := q.2.2.1
        have q3 := q.2.2.2.1
        have q4 := q.2.2.2.2
        have HB3 := Lib.hid hB3; clear hB3
        have HX3 := Lib.hid hx3; clear hx3 q hk3
        have HO3 := Lib.hid ho3; clear ho3
        go_wp2_with fail
        refine (ih e (by omega) (HR.out.keep ((hbr.trans hb3).size) (fun x hx _ => (hbr.trans hb3).block x (HS.out x hx))) HS.out HB3.out (by omega) hB0 (HPL.out.keep ((hbr.trans hb3).block 0 hB0)) (by have := HLT.out; have := HR2.out; (try simp only [List.length_append, List.length_cons, List.length_nil] at *); omega)).mono ?_
        rintro e4 w4 ⟨rfl, hB4, hb4, ho4⟩
        have hx4 := OK8.box ho4 HX3.out (by omega)
        have hl4 := (Array.getElem?_eq_some_iff.1 hx4).1
        clear q0 q1 q2 q3 q4 hc0 hc1 hc2 hc3 hc4
        go_wp2_with fail
        refine ⟨⟨k + 1, by omega, by go_num, by rw [HS2.out]; (have h1 := hB4; simp only [List.append_assoc] at h1 ⊢; exact h1), hbr.trans (hb3.trans hb4), hx4, HOr.out.trans (HO3.out.trans ho4), hl4⟩, by simp [intOf]; omega⟩
      · obtain rfl : k = 0 := by omega
        simp only [Nat.zero_mul, Nat.add_zero] at hc0 hc1 hc2 hc3 hc4
        have HRO2 := HRO.out
        rw [if_neg hk0] at HRO2
        have HR2 := Lib.hid HRO2; clear HRO2
        have HST2 := HST.out
        rw [if_neg hk0] at HST2
        have HS2 := Lib.hid HST2; clear HST2
        go_wp2_with fail
        refine (ih e (by omega) ((HR.out.keep hbr.size (fun x hx _ => hbr.block x (HS.out x hx))).after (by repeat (first | exact Below.refl _ _ | assumption | refine Below.drew ?_ | refine below_drewN ?_ _ | refine Below.alloc ?_ (by first | (simp; done) | omega | (simp; omega)) _ | refine Below.setCell ?_ (by first | (simp; done) | omega | (simp; omega)) _))) HS.out (HBr.out.after (by repeat (first | exact Below.refl _ _ | assumption | refine Below.drew ?_ | refine below_drewN ?_ _ | refine Below.alloc ?_ (by first | (simp; done) | omega | (simp; omega)) _ | refine Below.setCell ?_ (by first | (simp; done) | omega | (simp; omega)) _))) (by first | omega | (simp; omega)) hB0 ((HPL.out.keep (hbr.block 0 hB0)).after (by repeat (first | exact Below.refl _ _ | assumption | refine Below.drew ?_ | refine below_drewN ?_ _ | refine Below.alloc ?_ (by first | (simp; done) | omega | (simp; omega)) _ | refine Below.setCell ?_ (by first | (simp; done) | omega | (simp; omega)) _))) (by have := HLT.out; have := HR2.out; (try simp only [List.length_append, List.length_cons, List.length_nil] at *); omega)).mono ?_
        rintro e4 w4 ⟨rfl, hB4, hb4, ho4⟩
        have hx4 := OK8.box ho4 (((Below.refl wr.heap.size wr).alloc (Nat.le_refl _) (boxO x B1 m1 d1 B2 m2 d2)).block _ hzr |>.trans HXr.out) (by omega)
        have hl4 := (Array.getElem?_eq_some_iff.1 hx4).1
        replace hb4 : Below B wr w4 := Below.trans (by repeat (first | exact Below.refl _ _ | assumption | refine Below.drew ?_ | refine below_drewN ?_ _ | refine Below.alloc ?_ (by first | (simp; done) | omega | (simp; omega)) _ | refine Below.setCell ?_ (by first | (simp; done) | omega | (simp; omega)) _)) hb4
        replace ho4 : OK8 b wr w4 := ((Lib.OthersKept.refl _ _ wr).alloc _).trans ho4
        clear hc0 hc1 hc2 hc3 hc4
        go_wp2_with fail
        refine ⟨⟨1, by omega, by go_num, by have h1 := HS2.out; simp only [Nat.zero_add] at h1; rw [h1]; (have h2 := hB4; simp only [List.append_assoc, List.nil_append] at h2 ⊢; exact h2), hbr.trans hb4, hx4, HOr.out.trans ho4, hl4⟩, by simp [intOf]; omega⟩
    · obtain rfl : k = n2 := by omega
      have h0 : o.kids.take k = o.kids := List.take_of_length_le (by have := HL2.out; omega)
      have hBe := HBr.out
      rw [h0] at hBe
      have HBe := Lib.hid hBe; clear hBe h0
      have hsr := hbr.size
      go_wp2_with fail
      refine (wstr_any (s := [62]) HBe.out (by have := HLT.out; (try simp only [List.length_append, List.length_cons, List.length_nil] at *); omega) (by omega)).mono ?_
      rintro e3 w3 ⟨⟨v3, rfl⟩, hB3, hb3, ho3⟩
      go_wp2_with fail
      refine bodyPost_end (results_none rfl _ _ _) rfl ?_
      rw [HTL.out]
      exact ⟨rfl, by simpa using hB3, hbr.trans hb3, HOr.out.trans ho3⟩

end Go.Proofs.Sb

/- Walk over option.tell, at some numbers. Conditions: lengths up to 2^47. (written by gen_opttell.py) -/
namespace Go.Proofs.Sb
open Go.RowKit _root_.Sb

set_option maxHeartbeats 4000000 in
set_option maxRecDepth 100000 in
theorem tellw_49 {d : Nat} (ih : ∀ e, e < d → TellW e) {S : Nat → Prop} {M : Nat} {A1 : Option Addr} {n1 c1 : Nat} {A2 : Option Addr} {n2 c2 : Nat} {o : Opt} {w : World} {B b : Nat} {bs : List UInt8} (ho : OptR S w M d A1 n1 c1 A2 n2 c2 o) (hS : ∀ x, S x → x < B) (hB : IsB B b bs w) (hBw : B ≤ w.heap.size) (hB0 : 0 < B) (hpl : Pl w) (hlen : bs.length + (tellD (d + 1) o).length ≤ 140737488355328) (h : Hid (o.id = 49)) :
    Calls Tryd.prog 25 #[.pointer (some ⟨b, 0, none⟩), optV o A1 n1 c1 A2 n2 c2] w fun e w' => (e = .returned (.tuple #[])) ∧ IsB B b (bs ++ tellD (d + 1) o) w' ∧ Below B w w' ∧ OK8 b w w' := by
  have hl2 := ho.kids.len
  have hid := ho.id
  have hcap2 := ho.kids.cap
  have hcm2 := ho.kids.capMax
  have HL2 := Lib.hid hl2; clear hl2
  have HO := Lib.hid ho; clear ho
  have HS := Lib.hid hS; clear hS
  have HPL := Lib.hid hpl; clear hpl
  have hbb := hB.lt
  have HB := Lib.hid hB; clear hB
  have htl : tellD (d + 1) o = wTuple ++ [60] ++ joinB (o.kids.map (tellD d)) ++ [62] := by rw [tell_comp (.inr (.inr (.inr h.out))), h.out]; rfl
  rw [htl] at hlen
  have HTL := Lib.hid htl; clear htl
  have hlt : bs.length + wTuple.length + 2 + (joinB (o.kids.map (tellD d))).length ≤ 140737488355328 := by simp only [List.length_append, List.length_cons, List.length_nil] at hlen; omega
  have HLT := Lib.hid hlt; clear hlt hlen
  have p0 : (w.alloc (boxO o A1 n1 c1 A2 n2 c2)).cell? ⟨w.heap.size, 0, none⟩ = some (.int .u16 49) := by have h2 := (box_cells (box_new' w o A1 n1 c1 A2 n2 c2)).1; rw [h.out] at h2; exact h2
  go_enter Tryd.func25, Tryd.ntmps25
  go_wp2_with fail
  refine (wstr_any (s := wTuple) (HB.out.after (by repeat (first | exact Below.refl _ _ | assumption | refine Below.drew ?_ | refine below_drewN ?_ _ | refine Below.alloc ?_ (by first | (simp; done) | omega | (simp; omega)) _ | refine Below.setCell ?_ (by first | (simp; done) | omega | (simp; omega)) _))) (by have := HLT.out; (try simp only [List.length_append, List.length_cons, List.length_nil] at *); omega) (by first | omega | (simp; omega))).mono ?_
  rintro e1 w1 ⟨⟨v1, rfl⟩, hB1, hb1, ho1⟩
  have hx1 := OK8.box ho1 (box_new' w o A1 n1 c1 A2 n2 c2) (by omega)
  replace hb1 : Below B w w1 := Below.trans (by repeat (first | exact Below.refl _ _ | assumption | refine Below.drew ?_ | refine below_drewN ?_ _ | refine Below.alloc ?_ (by first | (simp; done) | omega | (simp; omega)) _ | refine Below.setCell ?_ (by first | (simp; done) | omega | (simp; omega)) _)) hb1
  replace ho1 : OK8 b w w1 := ((Lib.OthersKept.refl _ _ w).alloc _).trans ho1
  have hz1 := hb1.size
  have HB1 := Lib.hid hB1; clear hB1
  go_wp2_with fail
  refine (wstr_any (s := [60]) HB1.out (by have := HLT.out; (try simp only [List.length_append, List.length_cons, List.length_nil] at *); omega) (by omega)).mono ?_
  rintro e2 w2 ⟨⟨v2, rfl⟩, hB2, hb2, ho2⟩
  have hx2 := OK8.box ho2 hx1 (by omega)
  replace hb2 : Below B w w2 := hb1.trans hb2
  replace ho2 : OK8 b w w2 := ho1.trans ho2
  have hz2 := hb2.size
  have HB2 := Lib.hid hB2; clear hB2
  have HX2 := Lib.hid hx2; clear hx2 hx1
  have HO2 := Lib.hid ho2; clear ho2 ho1
  have p4 := (box_cells HX2.out).2.2.2.2
  go_wp2_with fail
  go_loopw [52] (fun i wr => ∃ k : Nat, k ≤ n2 ∧ i = .int .i64 (k : Nat) ∧ Hid (IsB B b (bs ++ wTuple ++ [60] ++ joinB ((o.kids.take k).map (tellD d))) wr) ∧ Below B w wr ∧ Hid (wr.heap[w.heap.size]? = some (boxO o A1 n1 c1 A2 n2 c2)) ∧ Hid (OK8 b w wr) ∧ w.heap.size < wr.heap.size) (fun i _ => n2 - (intOf i).toNat)
  case atStart => exact ⟨0, by omega, rfl, by (have h1 := HB2.out; simp only [List.take_zero, List.map_nil, joinB, List.append_nil]; exact h1), hb2, HX2, HO2, (Array.getElem?_eq_some_iff.1 HX2.out).1⟩
  case round =>
    obtain ⟨k, hk, rfl, HBr, hbr, HXr, HOr, hzr⟩ := hrel
    by_cases hlt : k < n2
    · obtain ⟨x, hx⟩ : ∃ x, o.kids[k]? = some x := ⟨_, List.getElem?_eq_getElem (by have := HL2.out; omega)⟩
      have HS1 := Lib.hid (HO.out.kids.below hbr fun x hx _ => HS.out x hx)
      obtain ⟨b', off, rfl, hSb, hbs, HC⟩ := HS1.out.at (by decide) (by omega)
      obtain ⟨v, hv1, hp, hv2⟩ := HC k x hx
      obtain ⟨e, B1, m1, d1, B2, m2, d2, rfl, rfl, hR⟩ := hp.open
      have hc0 := hv2 0 _ rfl
      have hc1 := hv2 1 _ rfl
      have hc2 := hv2 2 _ rfl
      have hc3 := hv2 3 _ rfl
      have hc4 := hv2 4 _ rfl
      simp only [Nat.add_zero] at hc0
      clear hv1 hv2 HC
      have HX := Lib.hid hx; clear hx
      have HR := Lib.hid hR; clear hR
      have HRO := Lib.hid (join_room (g := tellD (e + 1)) HX.out)
      have HST := Lib.hid (join_step (g := tellD (e + 1)) HX.out)
      by_cases hk0 : 0 < k
      · have HRO2 := HRO.out
        rw [if_pos hk0] at HRO2
        have HR2 := Lib.hid HRO2; clear HRO2
        have HST2 := HST.out
        rw [if_pos hk0] at HST2
        have HS2 := Lib.hid HST2; clear HST2
        go_wp2_with fail
        refine (wstr_any (s := sepB) (HBr.out.after (by repeat (first | exact Below.refl _ _ | assumption | refine Below.drew ?_ | refine below_drewN ?_ _ | refine Below.alloc ?_ (by first | (simp; done) | omega | (simp; omega)) _ | refine Below.setCell ?_ (by first | (simp; done) | omega | (simp; omega)) _))) (by have := HLT.out; have := HR2.out; (try simp only [List.length_append, List.length_cons, List.length_nil] at *); omega) (by first | omega | (simp; omega))).mono ?_
        rintro e3 w3 ⟨⟨v3, rfl⟩, hB3, hb3, ho3⟩
        have hk3 := OK8.box ho3 (box_new' wr x B1 m1 d1 B2 m2 d2) (by have := HBr.out.lt; omega)
        have hx3 := OK8.box ho3 (((Below.refl wr.heap.size wr).alloc (Nat.le_refl _) (boxO x B1 m1 d1 B2 m2 d2)).block _ hzr |>.trans HXr.out) (by omega)
        replace hb3 : Below B wr w3 := Below.trans (by repeat (first | exact Below.refl _ _ | assumption | refine Below.drew ?_ | refine below_drewN ?_ _ | refine Below.alloc ?_ (by first | (simp; done) | omega | (simp; omega)) _ | refine Below.setCell ?_ (by first | (simp; done) | omega | (simp; omega)) _)) hb3
        replace ho3 : OK8 b wr w3 := ((Lib.OthersKept.refl _ _ wr).alloc _).trans ho3
        have hz3 := hb3.size
        have q := box_cells hk3
        have q0 := q.1
        have q1 := q.2.1
        have q2 := q.2.2.1
        have q3 := q.2.2.2.1
        have q4 := q.2.2.2.2
        have HB3 := Lib.hid hB3; clear hB3
        have HX3 := Lib.hid hx3; clear hx3 q hk3
        have HO3 := Lib.hid ho3; clear ho3
        go_wp2_with fail
        refine (ih e (by omega) (HR.out.keep ((hbr.trans hb3).size) (fun x hx _ => (hbr.trans hb3).block x (HS.out x hx))) HS.out HB3.out (by omega) hB0 (HPL.out.keep ((hbr.trans hb3).block 0 hB0)) (by have := HLT.out; have := HR2.out; (try simp only [List.length_append, List.length_cons, List.length_nil] at *); omega)).mono ?_
        rintro e4 w4 ⟨rfl, hB4, hb4, ho4⟩
        have hx4 := OK8.box ho4 HX3.out (by omega)
        have hl4 := (Array.getElem?_eq_some_iff.1 hx4).1
        clear q0 q1 q2 q3 q4 hc0 hc1 hc2 hc3 hc4
        go_wp2_with fail
        refine ⟨⟨k + 1, by omega, by go_num, by rw [HS2.out]; (have h1 := hB4; simp only [List.append_assoc] at h1 ⊢; exact h1), hbr.trans (hb3.trans hb4), hx4, HOr.out.trans (HO3.out.trans ho4), hl4⟩, by simp [intOf]; omega⟩
      · obtain rfl : k = 0 := by omega
        simp only [Nat.zero_mul, Nat.add_zero] at hc0 hc1 hc2 hc3 hc4
        have HRO2 := HRO.out
        rw [if_neg hk0] at HRO2
        have HR2 := Lib.hid HRO2; clear HRO2
        have HST2 := HST.out
        rw [if_neg hk0] at HST2
        have HS2 := Lib.hid HST2; clear HST2
        go_wp2_with fail
        refine (ih e (by omega) ((HR.out.keep hbr.size (fun x hx _ => hbr.block x (HS.out x hx))).after (by repeat (first | exact Below.refl _ _ | assumption | refine Below.drew ?_ | refine below_drewN ?_ _ | refine Below.alloc ?_ (by first | (simp; done) | omega | (simp; omega)) _ | refine Below.setCell ?_ (by first | (simp; done) | omega | (simp; omega)) _))) HS.out (HBr.out.after (by repeat (first | exact Below.refl _ _ | assumption | refine Below.drew ?_ | refine below_drewN ?_ _ | refine Below.alloc ?_ (by first | (simp; done) | omega | (simp; omega)) _ | refine Below.setCell ?_ (by first | (simp; done) | omega | (simp; omega)) _))) (by first | omega | (simp; omega)) hB0 ((HPL.out.keep (hbr.block 0 hB0)).after (by repeat (first | exact Below.refl _ _ | assumption | refine Below.drew ?_ | refine below_drewN ?_ _ | refine Below.alloc ?_ (by first | (simp; done) | omega | (simp; omega)) _ | refine Below.setCell ?_ (by first | (simp; done) | omega | (simp; omega)) _))) (by have := HLT.out; have := HR2.out; (try simp only [List.length_append, List.length_cons, List.length_nil] at *); omega)).mono ?_
        rintro e4 w4 ⟨rfl, hB4, hb4, ho4⟩
        have hx4 := OK8.box ho4 (((Below.refl wr.heap.size wr).alloc (Nat.le_refl _) (boxO x B1 m1 d1 B2 m2 d2)).block _ hzr |>.trans HXr.out) (by omega)
        have hl4 := (Array.getElem?_eq_some_iff.1 hx4).1
        replace hb4 : Below B wr w4 := Below.trans (by repeat (first | exact Below.refl _ _ | assumption | refine Below.drew ?_ | refine below_drewN ?_ _ | refine Below.alloc ?_ (by first | (simp; done) | omega | (simp; omega)) _ | refine Below.setCell ?_ (by first | (simp; done) | omega | (simp; omega)) _)) hb4
        replace ho4 : OK8 b wr w4 := ((Lib.OthersKept.refl _ _ wr).alloc _).trans ho4
        clear hc0 hc1 hc2 hc3 hc4
        go_wp2_with fail
        refine ⟨⟨1, by omega, by go_num, by have h1 := HS2.out; simp only [Nat.zero_add] at h1; rw [h1]; (have h2 := hB4; simp only [List.append_assoc, List.nil_append] at h2 ⊢; exact h2), hbr.trans hb4, hx4, HOr.out.trans ho4, hl4⟩, by simp [intOf]; omega⟩
    · obtain rfl : k = n2 := by omega
      have h0 : o.kids.take k = o.kids := List.take_of_length_le (by have := HL2.out; omega)
      have hBe := HBr.out
      rw [h0] at hBe
      have HBe := Lib.hid hBe; clear hBe h0
      have hsr := hbr.size
      go_wp2_with fail
      refine (wstr_any (s := [62]) HBe.out (by have := HLT.out; (try simp only [List.length_append, List.length_cons, List.length_nil] at *); omega) (by omega)).mono ?_
      rintro e3 w3 ⟨⟨v3, rfl⟩, hB3, hb3, ho3⟩
      go_wp2_with fail
      refine bodyPost_end (results_none rfl _ _ _) rfl ?_
      rw [HTL.out]
      exact ⟨rfl, by simpa using hB3, hbr.trans hb3, HOr.out.trans ho3⟩

end Go.Proofs.Sb
