/- Words for memory (a slice that reads as bytes; a row that is the call's own), for walks over the program; laws of append and conversion over them. No conditions. -/
import Derived.Test.YtfeeeighafflnaaGreatPlain
import Derived.Test.YtfeeeighafflnaaGreatProg
import Derived.WalkKit
import Derived.WalkSpells
import Derived.WalkLawsBesides
import Derived.Lib.Hide
import Derived.Lib.AppendStr
import Derived.Deep.Draws
import Derived.Deep.QuietTactic
import Derived.Deep.RegionWith
import Derived.Deep.RegionLaw
import Derived.Deep.RegionHeld3
import Derived.Deep.DeepCutAuto
import Derived.BigQuiet
set_option linter.unusedVariables false
set_option linter.unusedSimpArgs false
namespace Go.Proofs.Sb
open Go.RowKit _root_.Sb

/-- the cells of bytes -/
def bv (bs : B) : List Value := bs.map fun b => .int .u8 (b.toNat : Int)
theorem bv_nil : bv [] = [] := rfl
theorem bv_length (bs : B) : (bv bs).length = bs.length := by simp [bv]
theorem bv_append (a b : B) : bv (a ++ b) = bv a ++ bv b := by simp [bv]
theorem bv_drop (a : B) (k : Nat) : bv (a.drop k) = (bv a).drop k := by simp [bv, List.map_drop]
theorem bv_take (a : B) (k : Nat) : bv (a.take k) = (bv a).take k := by simp [bv, List.map_take]
theorem bv_one (a : B) : ∀ u ∈ bv a, u.oneCell' = true := by
  intro u hu
  obtain ⟨_, _, rfl⟩ := List.mem_map.1 hu
  rfl
theorem bv_ne (a : B) (h : 0 < a.length) : bv a ≠ [] := fun e => by
  have := congrArg List.length e
  rw [bv_length] at this
  simp at this
  subst this
  simp at h

/-- the string of bytes -/
def str (bs : B) : ByteArray := ⟨bs.toArray⟩
@[simp] theorem str_size (bs : B) : (str bs).size = bs.length := by simp [str, ByteArray.size]
theorem str_inj {a b : B} (h : str a = str b) : a = b := by
  have := congrArg (fun s : ByteArray => s.data.toList) h
  simpa [str] using this
@[simp] theorem str_toList (bs : B) : (str bs).toList = bs := ByteArray.toList_mk bs
theorem str_of (s : ByteArray) : s = str s.data.toList := by cases s; simp [str]
theorem strCells_str (bs : B) : Lib.strCells (str bs) = bv bs := by simp [Lib.strCells, str, bv]
theorem str_ex (s : ByteArray) : ∃ bs, s = str bs := ⟨_, str_of s⟩

/-- the cells xs lie at A, in a block that satisfies S -/
def Rd (S : Nat → Prop) (w : World) (A : Option Addr) (xs : List Value) : Prop :=
  xs ≠ [] → ∃ b o, A = some ⟨b, o, none⟩ ∧ S b ∧ b < w.heap.size ∧ ∀ j u, xs[j]? = some u → w.cell? ⟨b, o + j, none⟩ = some u

section
variable {S S' : Nat → Prop} {w w' : World} {A : Option Addr} {xs : List Value}
theorem Rd.nil : Rd S w A [] := fun h => absurd rfl h
theorem Rd.keep (h : Rd S w A xs) (hs : w.heap.size ≤ w'.heap.size) (hk : ∀ b, S b → b < w.heap.size → w'.heap[b]? = w.heap[b]?) : Rd S w' A xs := fun hn => by
  obtain ⟨b, o, e, hS, hb, hc⟩ := h hn
  exact ⟨b, o, e, hS, by omega, fun j u hu => (World.cell?_of_block (hk b hS hb)).trans (hc j u hu)⟩
theorem Rd.below {N : Nat} (h : Rd S w A xs) (hb : Below N w w') (hS : ∀ b, S b → b < w.heap.size → b < N) : Rd S w' A xs := h.keep hb.size fun b hs hlt => hb.block b (hS b hs hlt)
theorem Rd.after (h : Rd S w A xs) (hb : Below w.heap.size w w') : Rd S w' A xs := h.below hb fun _ _ hlt => hlt
theorem Rd.grown {row : Option Nat} (h : Rd S w A xs) (hg : w.grownBy w' row) (hr : ∀ b, S b → some b ≠ row) : Rd S w' A xs := h.keep hg.size fun b hs hlt => hg.block b hlt (hr b hs)
theorem Rd.mono (h : Rd S w A xs) (hS : ∀ b, S b → b < w.heap.size → S' b) : Rd S' w A xs := fun hn => by
  obtain ⟨b, o, e, hs, hb, hc⟩ := h hn
  exact ⟨b, o, e, hS b hs hb, hb, hc⟩
theorem Rd.drop (h : Rd S w A xs) {k c : Nat} (hk : k < xs.length → c ≠ k) : Rd S w (if c = k then A else A.map (·.add k)) (xs.drop k) := fun hn => by
  have hlt : k < xs.length := by
    rcases Nat.lt_or_ge k xs.length with h1 | h1
    · exact h1
    · exact absurd (List.drop_eq_nil_of_le h1) hn
  obtain ⟨b, o, rfl, hs, hb, hcell⟩ := h (fun e => by rw [e] at hlt; simp at hlt)
  rw [if_neg (hk hlt)]
  refine ⟨b, o + k, by simp [Addr.add_lit], hs, hb, fun j u hu => ?_⟩
  rw [List.getElem?_drop] at hu
  rw [Nat.add_assoc]
  exact hcell _ u hu
theorem Rd.cellsAt (h : Rd S w A xs) {a : Addr} (ha : A = some a) : ∀ j u, xs[j]? = some u → w.cell? (a.add j) = some u := by
  intro j u hu
  obtain ⟨b, o, e, _, _, hc⟩ := h (fun e => by rw [e] at hu; simp at hu)
  rw [ha] at e
  injection e with e
  subst e
  rw [Addr.add_lit]
  exact hc j u hu
theorem Rd.of_own {base n c : Nat} {e : TypeId} {size : Nat} (h : w.ownsRow base e size (.slice A n c) n xs) : Rd (fun b => base ≤ b) w A xs := fun hn => by
  rcases h.2 with ⟨h1, h2⟩ | ⟨g, cap, cur, h1, hb, hg, h2, h3, h4, h5⟩
  · subst h2
    exact absurd (List.eq_nil_of_length_eq_zero (by simpa using h.1)) hn
  · injection h1 with hA hn' hc'
    subst hA
    refine ⟨g, 0, rfl, hb, (Array.getElem?_eq_some_iff.1 hg).1, fun j u hu => ?_⟩
    have := h.cells (g := g) rfl j u hu
    rw [Addr.add_lit] at this
    exact this
end

theorem seqB {a b c : World} (h : Below a.heap.size a b) (k : Below b.heap.size b c) : Below a.heap.size a c := h.trans (k.mono h.size)
/-- behind a call that has left what was there as it was: what the walk wants of old cells -/
theorem bcell {W w1 : World} (hb : Below W.heap.size W w1) : (∀ b o, b < W.heap.size → w1.cell? ⟨b, o, none⟩ = W.cell? ⟨b, o, none⟩) ∧ (∀ b o, b < W.heap.size → w1.frozen? ⟨b, o, none⟩ = W.frozen? ⟨b, o, none⟩) :=
  ⟨fun b o h => hb.cell (p := ⟨b, o, none⟩) h, fun b o h => hb.frozen (p := ⟨b, o, none⟩) h⟩
theorem below_drewN {N : Nat} {a w : World} (h : Below N a w) (n : Nat) : Below N a (w.drewN n) := ⟨h.os, h.tape, h.output, h.size, h.block⟩
theorem below_self_drewN (N : Nat) (w : World) (n : Nat) : Below N w (w.drewN n) := below_drewN (Below.refl _ _) n

/-- the slice of address A, length n, capacity c reads as the bytes bs -/
def Sl (S : Nat → Prop) (w : World) (A : Option Addr) (n c : Nat) (bs : B) : Prop := n = bs.length ∧ n ≤ c ∧ c ≤ maxLen ∧ Rd S w A (bv bs)
section
variable {S S' : Nat → Prop} {w w' : World} {A : Option Addr} {n c : Nat} {bs : B}
theorem Sl.nil : Sl S w A 0 0 [] := ⟨rfl, Nat.le_refl _, Nat.zero_le _, Rd.nil⟩
theorem Sl.after (h : Sl S w A n c bs) (hb : Below w.heap.size w w') : Sl S w' A n c bs := ⟨h.1, h.2.1, h.2.2.1, h.2.2.2.after hb⟩
theorem Sl.below {N : Nat} (h : Sl S w A n c bs) (hb : Below N w w') (hS : ∀ b, S b → b < w.heap.size → b < N) : Sl S w' A n c bs := ⟨h.1, h.2.1, h.2.2.1, h.2.2.2.below hb hS⟩
theorem Sl.grown {row : Option Nat} (h : Sl S w A n c bs) (hg : w.grownBy w' row) (hr : ∀ b, S b → some b ≠ row) : Sl S w' A n c bs := ⟨h.1, h.2.1, h.2.2.1, h.2.2.2.grown hg hr⟩
theorem Sl.mono (h : Sl S w A n c bs) (hS : ∀ b, S b → b < w.heap.size → S' b) : Sl S' w A n c bs := ⟨h.1, h.2.1, h.2.2.1, h.2.2.2.mono hS⟩
theorem Sl.lt (h : Sl S w A n c bs) : Sl (fun b => S b ∧ b < w.heap.size) w A n c bs := h.mono fun _ hs hl => ⟨hs, hl⟩
theorem Sl.fin {N : Nat} (h : Sl (fun b => S b ∧ b < N) w A n c bs) (hb : Below N w w') : Sl S w' A n c bs := (h.below hb fun _ hs _ => hs.2).mono fun _ hs _ => hs.1
theorem Sl.setCell (h : Sl S w A n c bs) {p : Addr} (hp : ∀ b, S b → b ≠ p.block) (u : Value) : Sl S (w.setCell p u) A n c bs :=
  ⟨h.1, h.2.1, h.2.2.1, h.2.2.2.keep (by simp) fun b hs _ => Below.heap_setCell w p u b (hp b hs)⟩
theorem Sl.drop (h : Sl S w A n c bs) (k : Nat) (hk : k ≤ n) : Sl S w (if c = k then A else A.map (·.add k)) (n - k) (c - k) (bs.drop k) := by
  obtain ⟨h1, h2, h3, h4⟩ := h
  refine ⟨by rw [List.length_drop, h1], by omega, by omega, ?_⟩
  rw [bv_drop]
  exact h4.drop (fun hlt => by rw [bv_length, ← h1] at hlt; omega)
theorem Sl.take (h : Sl S w A n c bs) (k : Nat) (hk : k ≤ n) : Sl S w A k c (bs.take k) := by
  obtain ⟨h1, h2, h3, h4⟩ := h
  refine ⟨by rw [List.length_take, ← h1]; omega, by omega, h3, fun hn => ?_⟩
  rw [bv_take] at hn ⊢
  obtain ⟨b, o, e, hs, hb, hc⟩ := h4 (fun e => hn (by rw [e]; simp))
  exact ⟨b, o, e, hs, hb, fun j u hu => hc j u (by rw [List.getElem?_take] at hu; split at hu <;> simp_all)⟩
theorem Sl.len (h : Sl S w A n c bs) : n = bs.length := h.1
theorem Sl.cap (h : Sl S w A n c bs) : n ≤ c := h.2.1
theorem Sl.capMax (h : Sl S w A n c bs) : c ≤ 9223372036854775807 := by have := h.2.2.1; unfold maxLen at this; omega
theorem Sl.addr (h : Sl S w A n c bs) (hn : 0 < n) : ∃ b o, A = some ⟨b, o, none⟩ ∧ S b ∧ b < w.heap.size ∧ Hid (∀ j (hj : j < bs.length), w.cell? ⟨b, o + j, none⟩ = some (.int .u8 (bs[j].toNat : Int))) := by
  obtain ⟨b, o, e, hs, hb, hc⟩ := h.2.2.2 (bv_ne bs (by have := h.1; omega))
  exact ⟨b, o, e, hs, hb, fun j hj => hc j _ (by simp [bv, hj])⟩
end

/-- the address behind k bytes -/
def cutA (A : Option Addr) (c k : Nat) : Option Addr := if c = k then A else A.map (·.add k)
theorem Sl.cut {S : Nat → Prop} {w : World} {A : Option Addr} {n c : Nat} {bs : B} (h : Sl S w A n c bs) (k : Nat) (hk : k ≤ n) : Sl S w (cutA A c k) (n - k) (c - k) (bs.drop k) := h.drop k hk
theorem u8elem : Tryz.prog.underlying 25 = some (.slice (Tryz.prog.elem 25)) := by simp [Program.elem, Tryz.underlying25]
theorem u8size (w : World) : (sizeOf (Tryz.prog.elem 25)).run Tryz.prog w = .ok 1 w := by simp [Program.elem, Tryz.underlying25, Tryz.sizeOf5]
/-- b[k:] -/
theorem run_cut (A : Option Addr) (n c k : Nat) (kl : IntKind) (hk : k ≤ n) (w : World) :
    (Instr.slice 25 (.slice A n c) (some (.int kl (k : Int))) none none).run Tryz.prog w = .ok (.slice (cutA A c k) (n - k) (c - k)) w := by
  rw [run_slice_l w 25 A n c u8elem kl (k : Int) (by omega) (by omega), u8size]
  simp [sliced, cutA]

/-- b[:k] -/
theorem run_head (A : Option Addr) (n c k : Nat) (kl : IntKind) (hk : k ≤ c) (w : World) :
    (Instr.slice 25 (.slice A n c) none (some (.int kl (k : Int))) none).run Tryz.prog w = .ok (.slice A k c) w := by
  rw [run_slice_h w 25 A n c u8elem kl (k : Int) (by omega) (by omega), u8size]
  cases A <;> simp [sliced, Addr.add]

/-- b[l:h] -/
theorem run_mid (A : Option Addr) (n c l h : Nat) (kl kh : IntKind) (hl : l ≤ h) (hh : h ≤ c) (w : World) :
    (Instr.slice 25 (.slice A n c) (some (.int kl (l : Int))) (some (.int kh (h : Int))) none).run Tryz.prog w = .ok (.slice (cutA A c l) (h - l) (c - l)) w := by
  rw [run_slice_lh w 25 A n c u8elem kl kh (l : Int) (h : Int) (by omega) (by omega) (by omega), u8size]
  simp [sliced, cutA]
theorem Sl.mid {S : Nat → Prop} {w : World} {A : Option Addr} {n c : Nat} {bs : B} (h : Sl S w A n c bs) (l r : Nat) (hl : l ≤ r) (hr : r ≤ n) : Sl S w (cutA A c l) (r - l) (c - l) ((bs.drop l).take (r - l)) :=
  (h.cut l (by omega)).take (r - l) (by omega)

/-- the slice is a row of the call's own, from block base on, that holds the bytes bs -/
def Own (base : Nat) (w : World) (A : Option Addr) (n c : Nat) (bs : B) : Prop := w.ownsRow base 5 1 (.slice A n c) n (bv bs)
section
variable {base : Nat} {w w' : World} {A : Option Addr} {n c : Nat} {bs : B}
theorem Own.len (h : Own base w A n c bs) : n = bs.length := by have := h.1; rw [bv_length] at this; omega
theorem Own.sl (h : Own base w A n c bs) : Sl (fun b => base ≤ b) w A n c bs := by
  refine ⟨h.len, ?_, ?_, Rd.of_own h⟩
  · rcases h.2 with ⟨h1, h2⟩ | ⟨g, cap, cur, h1, hb, hg, h2, h3, h4, h5⟩
    · injection h1; omega
    · injection h1; omega
  · rcases h.2 with ⟨h1, h2⟩ | ⟨g, cap, cur, h1, hb, hg, h2, h3, h4, h5⟩
    · injection h1; simp_all
    · injection h1; simp_all
theorem Own.nil : Own base w none 0 0 [] := World.ownsRow_nil _ _ _ _
theorem Own.block (h : Own base w A n c bs) : ∀ k, A.map (·.block) = some k → base ≤ k ∧ k < w.heap.size := fun k hk => World.ownsRow.lt h k (by cases A with | none => cases hk | some a => exact hk)
theorem Own.alloc (h : Own base w A n c bs) (o : Obj) : Own base (w.alloc o) A n c bs := World.ownsRow.alloc h o
theorem Own.after (h : Own base w A n c bs) (hb : Below w.heap.size w w') : Own base w' A n c bs := by
  refine ⟨h.1, ?_⟩
  rcases h.2 with h2 | ⟨g, cap, cur, e, hbg, hg, r⟩
  · exact .inl h2
  · exact .inr ⟨g, cap, cur, e, hbg, (hb.block g (Array.getElem?_eq_some_iff.1 hg).1).trans hg, r⟩
theorem Own.mono {base' : Nat} (h : Own base w A n c bs) (hb : base' ≤ base) : Own base' w A n c bs :=
  ⟨h.1, h.2.imp id fun ⟨g, cap, cur, e, hbg, r⟩ => ⟨g, cap, cur, e, Nat.le_trans hb hbg, r⟩⟩
end

theorem own_lit (w : World) (vs : Array Value) (n : Nat) (bs : B) (h : vs.toList = bv bs) (hn : n = bs.length) (hm : n ≤ maxLen) {base : Nat} (hb : base ≤ w.heap.size) {g : Nat} (hg : g = w.heap.size) : Own base (w.alloc (.cells vs 5)) (some ⟨g, 0, none⟩) n n bs := by
  subst hg
  unfold Own
  rw [← h]
  exact World.ownsRow_lit w vs n hb hm (by rw [← Array.length_toList, h, bv_length]; omega)
theorem sl_lit (w : World) (vs : Array Value) (n : Nat) (bs : B) (h : vs.toList = bv bs) (hn : n = bs.length) (hm : n ≤ maxLen) {g : Nat} (hg : g = w.heap.size) : Sl (fun b => w.heap.size ≤ b) (w.alloc (.cells vs 5)) (some ⟨g, 0, none⟩) n n bs := (own_lit w vs n bs h hn hm (Nat.le_refl _) hg).sl

theorem u8info : (Tryz.prog.info? 5).map (fun i => (i.zero, i.size, i.bytes)) = some (some (.int .u8 0), 1, 1) := by kernel_rfl

section
variable {P : Program} (w : World)
theorem run_append_of_nil (base : Nat) (t ty e : TypeId) (i : TypeInfo) (size : Nat) (ht : P.underlying t = some (.slice e)) (hi : P.info? e = some i)
    (v : Value) (n : Nat) (xs : List Value) (hown : w.ownsRow base e size v n xs) (c : Nat) : (Builtin.append_ #[t, t] ty #[v, .slice none 0 c]).run P w = .ok v w := by
  rcases hown.2 with ⟨rfl, rfl⟩ | ⟨g, cap, cur, rfl, _, _, hnc, _⟩
  · simp [Builtin.append_, run_underlying ht, sizeOf, typeInfo, hi, Builtin.lenOf, Builtin.firstCells]
  · simp [Builtin.append_, run_underlying ht, sizeOf, typeInfo, hi, Builtin.lenOf, Builtin.firstCells, hnc, storeCells]

/-- append of cells that are read onto a row of the call's own -/
theorem run_append_rd (base : Nat) (t ty e : TypeId) (i : TypeInfo) (z : Value) (size bytes : Nat) (ht : P.underlying t = some (.slice e)) (hi : P.info? e = some i) (hz : i.zero = some z)
    (hsize : i.size = size) (hby : i.bytes = bytes) (hzs : z.cells.size = size) (hsz : 0 < size)
    (v : Value) (n : Nat) (xs : List Value) (hown : w.ownsRow base e size v n xs)
    (S : Nat → Prop) (A : Option Addr) (m c : Nat) (news : List Value) (hl : news.length = m * size) (hr : Rd S w A news) (h1 : ∀ u ∈ news, u.oneCell' = true)
    (hbytes : (n + m) * bytes ≤ 140737488355328) (h63 : n + m ≤ maxLen) (hbase : base ≤ w.heap.size) :
    ∃ A' c' w', (Builtin.append_ #[t, t] ty #[v, .slice A m c]).run P w = .ok (.slice A' (n + m) c') w' ∧ w'.ownsRow base e size (.slice A' (n + m) c') (n + m) (xs ++ news) ∧ w.grownBy w' v.ownBlock := by
  have form : ∀ (v' : Value) (w' : World), w'.ownsRow base e size v' (n + m) (xs ++ news) → ∃ A' c', v' = Value.slice A' (n + m) c' := fun v' w' h => by
    rcases h.2 with ⟨rfl, h0⟩ | ⟨g, cap, cur, rfl, _⟩
    · rw [h0]; exact ⟨_, _, rfl⟩
    · exact ⟨_, _, rfl⟩
  cases A with
  | none =>
    have hn : news = [] := by
      by_cases h : news = []
      · exact h
      · obtain ⟨b, o, e', _⟩ := hr h
        cases e'
    subst hn
    have hm : m = 0 := by
      have : m * size = 0 := by simpa using hl.symm
      rcases Nat.mul_eq_zero.1 this with h | h
      · exact h
      · omega
    subst hm
    have hrun := run_append_of_nil w base t ty e i size ht hi v n xs hown c
    simp only [List.append_nil] at form ⊢
    obtain ⟨A', c', rfl⟩ := form v w hown
    exact ⟨A', c', w, hrun, hown, World.grownBy.refl w _⟩
  | some a =>
    obtain ⟨v', w', h2, h3, h4, _⟩ := run_append_own (P := P) w base t ty e i z size bytes ht hi hz hsize hby hzs hsz v n xs hown a m c news hl (hr.cellsAt rfl) h1 h63 hbytes hbase
    obtain ⟨A', c', rfl⟩ := form v' w' h3
    exact ⟨A', c', w', h2, h3, h4⟩

theorem wp_append_rd {o : Oper} {a : Act} {K : Act → World → Prop} {Q : Exit → Act → World → Prop} (s x : Operand) (t : TypeId)
    (ho : o.op = .call { callee := .builtin .append, args := #[s, x], argTypes := #[t, t] })
    (base : Nat) (e : TypeId) (i : TypeInfo) (z : Value) (size bytes : Nat) (ht : P.underlying t = some (.slice e)) (hi : P.info? e = some i) (hz : i.zero = some z)
    (hsize : i.size = size) (hby : i.bytes = bytes) (hzs : z.cells.size = size) (hsz : 0 < size)
    (v : Value) (n : Nat) (xs : List Value) (hs : a.eval s = v) (hown : w.ownsRow base e size v n xs)
    (S : Nat → Prop) (A : Option Addr) (m c : Nat) (news : List Value) (hx : a.eval x = .slice A m c) (hl : news.length = m * size) (hr : Rd S w A news) (h1 : ∀ u ∈ news, u.oneCell' = true)
    (hbytes : (n + m) * bytes ≤ 140737488355328) (h63 : n + m ≤ maxLen) (hbase : base ≤ w.heap.size)
    (h : ∀ A' c' w', w'.ownsRow base e size (.slice A' (n + m) c') (n + m) (xs ++ news) → w.grownBy w' v.ownBlock → K (a.put o.dst (.slice A' (n + m) c')) w') : o.wp P a w K Q := by
  obtain ⟨A', c', w', hrun, h2, h3⟩ := run_append_rd (P := P) w base t o.type e i z size bytes ht hi hz hsize hby hzs hsz v n xs hown S A m c news hl hr h1 hbytes h63 hbase
  unfold Oper.wp execOp
  simp only [ho, resolve, invoke, builtin, Sem.run_bind, Sem.run_pure, Result.andThen_ok, List.map_toArray, List.map_cons, List.map_nil, hs, hx, hrun]
  exact h A' c' w' h2 h3
end

/-- append(out, x...) of bytes, out a row of the call's own, x read -/
theorem wpList_app {w : World} {ops : Array Oper} {rest : List Oper} {o : Oper} {a : Act} {Q : Exit → Act → World → Prop} (hgd : o.guard = none) (s x : Operand)
    (ho : o.op = .call { callee := .builtin .append, args := #[s, x], argTypes := #[25, 25] })
    (base : Nat) (A : Option Addr) (n c : Nat) (bs : B) (hs : a.eval s = .slice A n c) (hown : Own base w A n c bs)
    (S : Nat → Prop) (A2 : Option Addr) (m c2 : Nat) (cs : B) (hx : a.eval x = .slice A2 m c2) (hr : Sl S w A2 m c2 cs)
    (hbytes : bs.length + cs.length ≤ 140737488355328) (hbase : base ≤ w.heap.size)
    (h : ∀ A' n' c' w', Own base w' A' n' c' (bs ++ cs) → w.grownBy w' (A.map (·.block)) → wpList Tryz.prog ops Q rest (a.put o.dst (.slice A' n' c')) w') : wpList Tryz.prog ops Q (o :: rest) a w := by
  obtain ⟨i0, hi, hz0, hz1, hz2⟩ := info_parts u8info
  refine wpList_plain hgd fun _ hK => ?_
  have e1 := hown.len
  have e2 := hr.len
  refine wp_append_rd w s x 25 ho base 5 i0 _ 1 1 Tryz.underlying25 hi hz0 hz1 hz2 rfl (by omega) _ n (bv bs) hs hown S A2 m c2 (bv cs) hx (by rw [bv_length]; omega) hr.2.2.2 (bv_one _) (by omega) (by unfold maxLen; omega) hbase fun A' c' w' h1 h2 => hK _ _ (h A' _ c' w' ?_ ?_)
  · unfold Own; rw [bv_append]; exact h1
  · cases A <;> exact h2
theorem wpList_apps {w : World} {ops : Array Oper} {rest : List Oper} {o : Oper} {a : Act} {Q : Exit → Act → World → Prop} (hgd : o.guard = none) (s x : Operand)
    (ho : o.op = .call { callee := .builtin .append, args := #[s, x], argTypes := #[25, 9] })
    (base : Nat) (A : Option Addr) (n c : Nat) (bs : B) (hs : a.eval s = .slice A n c) (hown : Own base w A n c bs)
    (cs : B) (hx : a.eval x = .string (str cs))
    (hbytes : bs.length + cs.length ≤ 140737488355328) (hbase : base ≤ w.heap.size)
    (h : ∀ A' n' c' w', Own base w' A' n' c' (bs ++ cs) → w.grownBy w' (A.map (·.block)) → wpList Tryz.prog ops Q rest (a.put o.dst (.slice A' n' c')) w') : wpList Tryz.prog ops Q (o :: rest) a w := by
  obtain ⟨i0, hi, hz0, hz1, hz2⟩ := info_parts u8info
  have e1 := hown.len
  refine Lib.wpList_append_own_string w hgd s x 25 9 ho base 5 i0 Tryz.underlying25 Tryz.underlying9 hi hz0 hz1 hz2 _ n (bv bs) hs hown (str cs) hx (by rw [str_size]; unfold maxLen; omega) (by rw [str_size]; omega) hbase fun v' w' h1 h2 _ => ?_
  rw [str_size, strCells_str, ← bv_append] at h1
  have : ∃ A' c', v' = .slice A' (n + cs.length) c' := by
    rcases h1.2 with ⟨rfl, h0⟩ | ⟨g, cap, cur, rfl, _⟩
    · rw [h0]; exact ⟨_, _, rfl⟩
    · exact ⟨_, _, rfl⟩
  obtain ⟨A', c', rfl⟩ := this
  exact h A' _ c' w' h1 (by cases A <;> exact h2)

/-- the same as a step of a region that draws its order -/
theorem step_app {w : World} {ops : Array Oper} {o : Oper} {a : Act} {K : Act → World → Prop} {Q : Exit → Act → World → Prop} {E : Prop} (hgd : o.guard = none) (s x : Operand)
    (ho : o.op = .call { callee := .builtin .append, args := #[s, x], argTypes := #[25, 25] })
    (base : Nat) (A : Option Addr) (n c : Nat) (bs : B) (hs : a.eval s = .slice A n c) (hown : Own base w A n c bs)
    (S : Nat → Prop) (A2 : Option Addr) (m c2 : Nat) (cs : B) (hx : a.eval x = .slice A2 m c2) (hr : Sl S w A2 m c2 cs)
    (hbytes : bs.length + cs.length ≤ 140737488355328) (hbase : base ≤ w.heap.size)
    (h : ∀ A' n' c' w', Own base w' A' n' c' (bs ++ cs) → w.grownBy w' (A.map (·.block)) → K (a.put o.dst (.slice A' n' c')) w') :
    if Region.wanted o (yielded ops a.tmps) = true then Oper.wp Tryz.prog o a w K Q else E := by
  obtain ⟨i0, hi, hz0, hz1, hz2⟩ := info_parts u8info
  have hw : Region.wanted o (yielded ops a.tmps) = true := by simp [Region.wanted, hgd]
  rw [if_pos hw]
  have e1 := hown.len
  have e2 := hr.len
  refine wp_append_rd w s x 25 ho base 5 i0 _ 1 1 Tryz.underlying25 hi hz0 hz1 hz2 rfl (by omega) _ n (bv bs) hs hown S A2 m c2 (bv cs) hx (by rw [bv_length]; omega) hr.2.2.2 (bv_one _) (by omega) (by unfold maxLen; omega) hbase fun A' c' w' h1 h2 => h A' _ c' w' ?_ ?_
  · unfold Own; rw [bv_append]; exact h1
  · cases A <;> exact h2

/-- string(x) of bytes that are read -/
theorem conv_sl {S : Nat → Prop} {w : World} {A : Option Addr} {n c : Nat} {bs : B} (h : Sl S w A n c bs) :
    (convert 25 9 (.slice A n c)).run Tryz.prog w = .ok (.string (str bs)) w := by
  obtain ⟨h1, h2, h3, h4⟩ := h
  rw [run_convert_bytes_string w 25 9 5 A n c Tryz.underlying25 Tryz.underlying5 Tryz.underlying9]
  cases A with
  | none =>
    have : bs = [] := by
      cases bs with
      | nil => rfl
      | cons x l => obtain ⟨b, o, e, _⟩ := h4 (by simp [bv]); cases e
    subst this
    simp [Conv.bytesToString, str, ByteArray.empty, ByteArray.emptyWithCapacity]
    rfl
  | some a =>
    have hl : (loadCells a n).run Tryz.prog w = .ok ((bs.map fun b => (b.toNat : Int)).map (Value.int .u8)).toArray w := by
      have := run_loadCells_list (P := Tryz.prog) w a (bv bs) (h4.cellsAt rfl)
      rw [bv_length, ← h1] at this
      simpa [bv, Function.comp_def] using this
    rw [run_bytesToString w a n c _ hl, foldl_push_bytes]
    simp [str, ByteArray.empty, ByteArray.emptyWithCapacity, Function.comp_def]
    rfl

end Go.Proofs.Sb
