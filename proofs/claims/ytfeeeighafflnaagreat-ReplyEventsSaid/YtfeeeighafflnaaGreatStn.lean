/- A reply's bounds; walks over reply.stream.fault and note, writing. Conditions: lengths up to 2^47. (written by gen_stn.py) -/
import Derived.Test.YtfeeeighafflnaaGreatStk
set_option linter.unusedVariables false
set_option linter.unusedSimpArgs false
namespace Sb
theorem encS_len (k n : Nat) : lenS (.ok (enc k n)) = k := enc_length k n
theorem inetS_len (a : Adr) : lenS (inet a) ≤ 21 := by
  unfold inet
  split
  · rename_i h
    show (UInt8.ofNat a.addr.length :: a.addr ++ enc 4 a.port).length ≤ 21
    rw [List.length_append, List.length_cons, enc_length]
    omega
  · show 0 ≤ 21; decide
theorem chgS_len (c : Chg) : lenS (chgW c) ≤ 262148 + lenS (texts c.args) := by
  have h : lenS (tailW c.target (c.name, c.args)) ≤ 65537 + lenS (texts c.args) := by
    unfold tailW
    split
    · exact lenS_le (textS_len _) (Nat.le_refl _)
    · split
      · have := textS_len c.name; show lenS (text c.name) ≤ _; omega
      · show 0 ≤ _; omega
  have := lenS_le (wordS_len wdsW c.what) (lenS_le (wordS_len wdsT c.target) (lenS_le (textS_len c.space) h))
  unfold chgW
  omega
end Sb
namespace Go.Proofs.Sb
open Go.RowKit _root_.Sb
def i32 (x : Int) : Prop := -2147483648 ≤ x ∧ x ≤ 2147483647
def strOk (x : B) : Prop := x.length ≤ 9223372036854775807
/-- what a fault's fields are bound by -/
structure FltB (f : Flt) : Prop where
  code : f.code < 4294967296
  text : strOk f.text
  level : f.level < 65536
  received : i32 f.received
  needed : i32 f.needed
  failures : i32 f.failures
  data : f.data < 256
  write : strOk f.write
  space : strOk f.space
  name : strOk f.name
  ident : strOk f.ident
structure ChgB (c : Chg) : Prop where
  what : strOk c.what
  target : strOk c.target
  space : strOk c.space
  name : strOk c.name
/-- what a reply's fields are bound by -/
structure RpB (x : Rp) : Prop where
  op : x.opcode < 256
  flt : FltB x.fault
  text : strOk x.text
  kind : strOk x.note.kind
  what : strOk x.note.what
  port : x.note.addr.port < 4294967296
  addr : x.note.addr.addr.length ≤ 140737488355328
  sch : ChgB x.note.schema
  rkind : x.kind < 4294967296
  chg : ChgB x.change
  ident : strOk x.ident
  token : x.token.bytes.length ≤ 140737488351232
  rest : x.rest.length ≤ 140737488000000
  lfa : lenS (texts x.fault.args) ≤ 140737488000000
  lsc : lenS (texts x.note.schema.args) ≤ 140737488000000
  lcg : lenS (texts x.change.args) ≤ 140737488000000
set_option maxHeartbeats 16000000 in
set_option maxRecDepth 100000 in
theorem wrm_fault {T S : Nat → Prop} {w : World} {X P : Nat} {s : Wr} {x : Rp} {t : Trs} (h : StW T w X s) (hB : Bx (fun b => b = P) w P (rpT x t)) (hR : RpR S w x t) (hT : ¬ T P) (hS : ∀ b, S b → ¬ T b) (hD : FltB x.fault) (hl : lenS s + 262160 + lenS (texts x.fault.args) ≤ 140737488355328) :
    Calls Tryz.prog 21 #[.pointer (some ⟨X, 0, none⟩), .pointer (some ⟨P, 1, none⟩)] w fun e w' => e = .returned (.tuple #[]) ∧ ∃ T', SW w T w' X (bothW s (fltW x.fault)) T' := by
  have HK0 := Lib.hid (SW.refl h); clear h
  have hPl := hB.lt
  have HB0 := Lib.hid hB; clear hB
  have HS := Lib.hid hS; clear hS
  have HR := Lib.hid hR; clear hR
  have HD := Lib.hid hD; clear hD
  have HTP : ∀ {W T' s'}, SW w T W X s' T' → Bx (fun b => b = P) W P (rpT x t) := fun k => k.keep goesBx HB0.out fun b hb e => hT (hb ▸ e)
  obtain ⟨s0, hs0⟩ : ∃ q, s = q := ⟨_, rfl⟩
  have hl0 : lenS s0 ≤ lenS s + (0) := by rw [hs0]; exact Nat.le_refl _
  have hT0 : ¬ T P := hT
  rw [hs0] at HK0
  have HE0 := Lib.hid hs0; clear hs0
  go_enter Tryz.func21, Tryz.ntmps21
  go_wp2_with fail
  refine (m_code (spw_code (x := x.fault.code) HK0.out.at' (HB0.out.c 1 _ rfl) HD.out.code (by have := encS_len 4 (x.fault.code); omega))).mono ?_
  rintro e w1 ⟨rfl, T1, hk⟩
  have HK1 := Lib.hid (HK0.out.trans hk); clear hk
  obtain ⟨s1, hs1⟩ : ∃ q, bothW s0 (.ok (enc 4 (x.fault.code))) = q := ⟨_, rfl⟩
  have hl1 : lenS s1 ≤ lenS s + (4) := hs1 ▸ Nat.le_trans (lenS_le hl0 (Nat.le_of_eq (encS_len 4 _))) (by omega)
  rw [hs1] at HK1
  have HE1 := Lib.hid hs1; clear hs1
  have hT1 : ¬ T1 P := HK1.out.not hPl hT
  have HB1 := Lib.hid (HTP HK1.out)
  go_wp2_with fail
  refine (m_text (spw_text (x := x.fault.text) HK1.out.at' (HB1.out.c 2 _ rfl) HD.out.text (by have := textS_len (x.fault.text); omega))).mono ?_
  rintro e w2 ⟨rfl, T2, hk⟩
  have HK2 := Lib.hid (HK1.out.trans hk); clear hk
  obtain ⟨s2, hs2⟩ : ∃ q, bothW s1 (text (x.fault.text)) = q := ⟨_, rfl⟩
  have hl2 : lenS s2 ≤ lenS s + (4 + 65537) := hs2 ▸ Nat.le_trans (lenS_le hl1 (textS_len _)) (by omega)
  rw [hs2] at HK2
  have HE2 := Lib.hid hs2; clear hs2
  have hT2 : ¬ T2 P := HK2.out.not hPl hT
  have HB2 := Lib.hid (HTP HK2.out)
  have c1 := HB2.out.c 1 (.int .u32 ((x.fault.code : Nat) : Int)) rfl
  have hfin : bothW s (fltW x.fault) = bothW s2 (fltTW x.fault) := by
    unfold fltW
    rw [← HE2.out, ← HE1.out, HE0.out, bothS_assoc, bothS_assoc]
  have HFIN := Lib.hid hfin; clear hfin
  obtain ⟨c, hc⟩ : ∃ c, x.fault.code = c := ⟨_, rfl⟩
  rw [hc] at c1
  have HC := Lib.hid hc; clear hc
  by_cases h4096 : c = 4096
  · subst h4096
    have HTL : Hid (fltTW x.fault = (bothW (cons (x.fault.level)) (bothW (num4W (x.fault.needed)) (num4W (x.fault.received))))) := Lib.hid (by unfold fltTW; rw [HC.out]; rfl)
    go_wp2_with fail
    refine (m_level (spw_level (x := x.fault.level) HK2.out.at' (HB2.out.c 3 _ rfl) HD.out.level (by have := consS_len (x.fault.level); omega))).mono ?_
    rintro e w3 ⟨rfl, T3, hk⟩
    have HK3 := Lib.hid (HK2.out.trans hk); clear hk
    obtain ⟨s3, hs3⟩ : ∃ q, bothW s2 (cons (x.fault.level)) = q := ⟨_, rfl⟩
    have hl3 : lenS s3 ≤ lenS s + (4 + 65537 + 2) := hs3 ▸ Nat.le_trans (lenS_le hl2 (consS_len _)) (by omega)
    rw [hs3] at HK3
    have HE3 := Lib.hid hs3; clear hs3
    have hT3 : ¬ T3 P := HK3.out.not hPl hT
    have HB3 := Lib.hid (HTP HK3.out)
    go_wp2_with fail
    refine (wrm_number (x := x.fault.needed) HK3.out.at' HB3.out (i := 5) rfl hT3 HD.out.needed.1 HD.out.needed.2 (by omega)).mono ?_
    rintro e w4 ⟨rfl, T4, hk⟩
    have HK4 := Lib.hid (HK3.out.trans hk); clear hk
    obtain ⟨s4, hs4⟩ : ∃ q, bothW s3 (num4W (x.fault.needed)) = q := ⟨_, rfl⟩
    have hl4 : lenS s4 ≤ lenS s + (4 + 65537 + 2 + 4) := hs4 ▸ Nat.le_trans (lenS_le hl3 (num4S_len _)) (by omega)
    rw [hs4] at HK4
    have HE4 := Lib.hid hs4; clear hs4
    have hT4 : ¬ T4 P := HK4.out.not hPl hT
    have HB4 := Lib.hid (HTP HK4.out)
    go_wp2_with fail
    refine (wrm_number (x := x.fault.received) HK4.out.at' HB4.out (i := 4) rfl hT4 HD.out.received.1 HD.out.received.2 (by omega)).mono ?_
    rintro e w5 ⟨rfl, T5, hk⟩
    have HK5 := Lib.hid (HK4.out.trans hk); clear hk
    obtain ⟨s5, hs5⟩ : ∃ q, bothW s4 (num4W (x.fault.received)) = q := ⟨_, rfl⟩
    have hl5 : lenS s5 ≤ lenS s + (4 + 65537 + 2 + 4 + 4) := hs5 ▸ Nat.le_trans (lenS_le hl4 (num4S_len _)) (by omega)
    rw [hs5] at HK5
    have HE5 := Lib.hid hs5; clear hs5
    have hT5 : ¬ T5 P := HK5.out.not hPl hT
    have HB5 := Lib.hid (HTP HK5.out)
    go_wp2_with fail
    first | refine bodyPost_end (results_none rfl _ _ _) rfl ?_ | refine bodyPost_ret (v := .tuple #[]) (results_none rfl _ _ _) rfl ?_
    refine ⟨rfl, T5, HK5.out.as ?_⟩
    rw [HFIN.out, HTL.out, ← HE5.out, ← HE4.out, ← HE3.out]
    simp only [bothS_assoc]
  by_cases h4352 : c = 4352
  · subst h4352
    have HTL : Hid (fltTW x.fault = (bothW (cons x.fault.level) (bothW (num4W x.fault.received) (bothW (num4W x.fault.needed) (text (x.fault.write)))))) := Lib.hid (by unfold fltTW; rw [HC.out]; rfl)
    go_wp2_with fail
    refine (wrm_counts (i := 1) (l := x.fault.level) (r := x.fault.received) (n := x.fault.needed) HK2.out.at' HB2.out rfl rfl rfl hT2 HD.out.level HD.out.received HD.out.needed (by omega)).mono ?_
    rintro e w3 ⟨rfl, T3, hk⟩
    have HK3 := Lib.hid (HK2.out.trans hk); clear hk
    obtain ⟨s3, hs3⟩ : ∃ q, bothW (bothW (bothW s2 (cons x.fault.level)) (num4W x.fault.received)) (num4W x.fault.needed) = q := ⟨_, rfl⟩
    have hl3 : lenS s3 ≤ lenS s + (4 + 65537 + 10) := hs3 ▸ Nat.le_trans (lenS_le (lenS_le (lenS_le hl2 (consS_len _)) (num4S_len _)) (num4S_len _)) (by omega)
    rw [hs3] at HK3
    have HE3 := Lib.hid hs3; clear hs3
    have hT3 : ¬ T3 P := HK3.out.not hPl hT
    have HB3 := Lib.hid (HTP HK3.out)
    go_wp2_with fail
    refine (m_text (spw_text (x := x.fault.write) HK3.out.at' (HB3.out.c 8 _ rfl) HD.out.write (by have := textS_len (x.fault.write); omega))).mono ?_
    rintro e w4 ⟨rfl, T4, hk⟩
    have HK4 := Lib.hid (HK3.out.trans hk); clear hk
    obtain ⟨s4, hs4⟩ : ∃ q, bothW s3 (text (x.fault.write)) = q := ⟨_, rfl⟩
    have hl4 : lenS s4 ≤ lenS s + (4 + 65537 + 10 + 65537) := hs4 ▸ Nat.le_trans (lenS_le hl3 (textS_len _)) (by omega)
    rw [hs4] at HK4
    have HE4 := Lib.hid hs4; clear hs4
    have hT4 : ¬ T4 P := HK4.out.not hPl hT
    have HB4 := Lib.hid (HTP HK4.out)
    go_wp2_with fail
    first | refine bodyPost_end (results_none rfl _ _ _) rfl ?_ | refine bodyPost_ret (v := .tuple #[]) (results_none rfl _ _ _) rfl ?_
    refine ⟨rfl, T4, HK4.out.as ?_⟩
    rw [HFIN.out, HTL.out, ← HE4.out, ← HE3.out]
    simp only [bothS_assoc]
  by_cases h4608 : c = 4608
  · subst h4608
    have HTL : Hid (fltTW x.fault = (bothW (cons x.fault.level) (bothW (num4W x.fault.received) (bothW (num4W x.fault.needed) (.ok (enc 1 (x.fault.data))))))) := Lib.hid (by unfold fltTW; rw [HC.out]; rfl)
    go_wp2_with fail
    refine (wrm_counts (i := 1) (l := x.fault.level) (r := x.fault.received) (n := x.fault.needed) HK2.out.at' HB2.out rfl rfl rfl hT2 HD.out.level HD.out.received HD.out.needed (by omega)).mono ?_
    rintro e w3 ⟨rfl, T3, hk⟩
    have HK3 := Lib.hid (HK2.out.trans hk); clear hk
    obtain ⟨s3, hs3⟩ : ∃ q, bothW (bothW (bothW s2 (cons x.fault.level)) (num4W x.fault.received)) (num4W x.fault.needed) = q := ⟨_, rfl⟩
    have hl3 : lenS s3 ≤ lenS s + (4 + 65537 + 10) := hs3 ▸ Nat.le_trans (lenS_le (lenS_le (lenS_le hl2 (consS_len _)) (num4S_len _)) (num4S_len _)) (by omega)
    rw [hs3] at HK3
    have HE3 := Lib.hid hs3; clear hs3
    have hT3 : ¬ T3 P := HK3.out.not hPl hT
    have HB3 := Lib.hid (HTP HK3.out)
    go_wp2_with fail
    refine (m_octet (spw_octet (x := x.fault.data) HK3.out.at' (HB3.out.c 7 _ rfl) HD.out.data (by have := encS_len 1 (x.fault.data); omega))).mono ?_
    rintro e w4 ⟨rfl, T4, hk⟩
    have HK4 := Lib.hid (HK3.out.trans hk); clear hk
    obtain ⟨s4, hs4⟩ : ∃ q, bothW s3 (.ok (enc 1 (x.fault.data))) = q := ⟨_, rfl⟩
    have hl4 : lenS s4 ≤ lenS s + (4 + 65537 + 10 + 1) := hs4 ▸ Nat.le_trans (lenS_le hl3 (Nat.le_of_eq (encS_len 1 _))) (by omega)
    rw [hs4] at HK4
    have HE4 := Lib.hid hs4; clear hs4
    have hT4 : ¬ T4 P := HK4.out.not hPl hT
    have HB4 := Lib.hid (HTP HK4.out)
    go_wp2_with fail
    first | refine bodyPost_end (results_none rfl _ _ _) rfl ?_ | refine bodyPost_ret (v := .tuple #[]) (results_none rfl _ _ _) rfl ?_
    refine ⟨rfl, T4, HK4.out.as ?_⟩
    rw [HFIN.out, HTL.out, ← HE4.out, ← HE3.out]
    simp only [bothS_assoc]
  by_cases h4864 : c = 4864
  · subst h4864
    have HTL : Hid (fltTW x.fault = (bothW (cons x.fault.level) (bothW (num4W x.fault.received) (bothW (num4W x.fault.needed) (bothW (num4W (x.fault.failures)) (.ok (enc 1 (x.fault.data)))))))) := Lib.hid (by unfold fltTW; rw [HC.out]; rfl)
    go_wp2_with fail
    refine (wrm_counts (i := 1) (l := x.fault.level) (r := x.fault.received) (n := x.fault.needed) HK2.out.at' HB2.out rfl rfl rfl hT2 HD.out.level HD.out.received HD.out.needed (by omega)).mono ?_
    rintro e w3 ⟨rfl, T3, hk⟩
    have HK3 := Lib.hid (HK2.out.trans hk); clear hk
    obtain ⟨s3, hs3⟩ : ∃ q, bothW (bothW (bothW s2 (cons x.fault.level)) (num4W x.fault.received)) (num4W x.fault.needed) = q := ⟨_, rfl⟩
    have hl3 : lenS s3 ≤ lenS s + (4 + 65537 + 10) := hs3 ▸ Nat.le_trans (lenS_le (lenS_le (lenS_le hl2 (consS_len _)) (num4S_len _)) (num4S_len _)) (by omega)
    rw [hs3] at HK3
    have HE3 := Lib.hid hs3; clear hs3
    have hT3 : ¬ T3 P := HK3.out.not hPl hT
    have HB3 := Lib.hid (HTP HK3.out)
    go_wp2_with fail
    refine (wrm_number (x := x.fault.failures) HK3.out.at' HB3.out (i := 6) rfl hT3 HD.out.failures.1 HD.out.failures.2 (by omega)).mono ?_
    rintro e w4 ⟨rfl, T4, hk⟩
    have HK4 := Lib.hid (HK3.out.trans hk); clear hk
    obtain ⟨s4, hs4⟩ : ∃ q, bothW s3 (num4W (x.fault.failures)) = q := ⟨_, rfl⟩
    have hl4 : lenS s4 ≤ lenS s + (4 + 65537 + 10 + 4) := hs4 ▸ Nat.le_trans (lenS_le hl3 (num4S_len _)) (by omega)
    rw [hs4] at HK4
    have HE4 := Lib.hid hs4; clear hs4
    have hT4 : ¬ T4 P := HK4.out.not hPl hT
    have HB4 := Lib.hid (HTP HK4.out)
    go_wp2_with fail
    refine (m_octet (spw_octet (x := x.fault.data) HK4.out.at' (HB4.out.c 7 _ rfl) HD.out.data (by have := encS_len 1 (x.fault.data); omega))).mono ?_
    rintro e w5 ⟨rfl, T5, hk⟩
    have HK5 := Lib.hid (HK4.out.trans hk); clear hk
    obtain ⟨s5, hs5⟩ : ∃ q, bothW s4 (.ok (enc 1 (x.fault.data))) = q := ⟨_, rfl⟩
    have hl5 : lenS s5 ≤ lenS s + (4 + 65537 + 10 + 4 + 1) := hs5 ▸ Nat.le_trans (lenS_le hl4 (Nat.le_of_eq (encS_len 1 _))) (by omega)
    rw [hs5] at HK5
    have HE5 := Lib.hid hs5; clear hs5
    have hT5 : ¬ T5 P := HK5.out.not hPl hT
    have HB5 := Lib.hid (HTP HK5.out)
    go_wp2_with fail
    first | refine bodyPost_end (results_none rfl _ _ _) rfl ?_ | refine bodyPost_ret (v := .tuple #[]) (results_none rfl _ _ _) rfl ?_
    refine ⟨rfl, T5, HK5.out.as ?_⟩
    rw [HFIN.out, HTL.out, ← HE5.out, ← HE4.out, ← HE3.out]
    simp only [bothS_assoc]
  by_cases h5376 : c = 5376
  · subst h5376
    have HTL : Hid (fltTW x.fault = (bothW (cons x.fault.level) (bothW (num4W x.fault.received) (bothW (num4W x.fault.needed) (bothW (num4W (x.fault.failures)) (text (x.fault.write))))))) := Lib.hid (by unfold fltTW; rw [HC.out]; rfl)
    go_wp2_with fail
    refine (wrm_counts (i := 1) (l := x.fault.level) (r := x.fault.received) (n := x.fault.needed) HK2.out.at' HB2.out rfl rfl rfl hT2 HD.out.level HD.out.received HD.out.needed (by omega)).mono ?_
    rintro e w3 ⟨rfl, T3, hk⟩
    have HK3 := Lib.hid (HK2.out.trans hk); clear hk
    obtain ⟨s3, hs3⟩ : ∃ q, bothW (bothW (bothW s2 (cons x.fault.level)) (num4W x.fault.received)) (num4W x.fault.needed) = q := ⟨_, rfl⟩
    have hl3 : lenS s3 ≤ lenS s + (4 + 65537 + 10) := hs3 ▸ Nat.le_trans (lenS_le (lenS_le (lenS_le hl2 (consS_len _)) (num4S_len _)) (num4S_len _)) (by omega)
    rw [hs3] at HK3
    have HE3 := Lib.hid hs3; clear hs3
    have hT3 : ¬ T3 P := HK3.out.not hPl hT
    have HB3 := Lib.hid (HTP HK3.out)
    go_wp2_with fail
    refine (wrm_number (x := x.fault.failures) HK3.out.at' HB3.out (i := 6) rfl hT3 HD.out.failures.1 HD.out.failures.2 (by omega)).mono ?_
    rintro e w4 ⟨rfl, T4, hk⟩
    have HK4 := Lib.hid (HK3.out.trans hk); clear hk
    obtain ⟨s4, hs4⟩ : ∃ q, bothW s3 (num4W (x.fault.failures)) = q := ⟨_, rfl⟩
    have hl4 : lenS s4 ≤ lenS s + (4 + 65537 + 10 + 4) := hs4 ▸ Nat.le_trans (lenS_le hl3 (num4S_len _)) (by omega)
    rw [hs4] at HK4
    have HE4 := Lib.hid hs4; clear hs4
    have hT4 : ¬ T4 P := HK4.out.not hPl hT
    have HB4 := Lib.hid (HTP HK4.out)
    go_wp2_with fail
    refine (m_text (spw_text (x := x.fault.write) HK4.out.at' (HB4.out.c 8 _ rfl) HD.out.write (by have := textS_len (x.fault.write); omega))).mono ?_
    rintro e w5 ⟨rfl, T5, hk⟩
    have HK5 := Lib.hid (HK4.out.trans hk); clear hk
    obtain ⟨s5, hs5⟩ : ∃ q, bothW s4 (text (x.fault.write)) = q := ⟨_, rfl⟩
    have hl5 : lenS s5 ≤ lenS s + (4 + 65537 + 10 + 4 + 65537) := hs5 ▸ Nat.le_trans (lenS_le hl4 (textS_len _)) (by omega)
    rw [hs5] at HK5
    have HE5 := Lib.hid hs5; clear hs5
    have hT5 : ¬ T5 P := HK5.out.not hPl hT
    have HB5 := Lib.hid (HTP HK5.out)
    go_wp2_with fail
    first | refine bodyPost_end (results_none rfl _ _ _) rfl ?_ | refine bodyPost_ret (v := .tuple #[]) (results_none rfl _ _ _) rfl ?_
    refine ⟨rfl, T5, HK5.out.as ?_⟩
    rw [HFIN.out, HTL.out, ← HE5.out, ← HE4.out, ← HE3.out]
    simp only [bothS_assoc]
  by_cases h5120 : c = 5120
  · subst h5120
    have HTL : Hid (fltTW x.fault = (bothW (text (x.fault.space)) (bothW (text (x.fault.name)) (texts x.fault.args)))) := Lib.hid (by unfold fltTW; rw [HC.out]; rfl)
    go_wp2_with fail
    refine (m_text (spw_text (x := x.fault.space) HK2.out.at' (HB2.out.c 9 _ rfl) HD.out.space (by have := textS_len (x.fault.space); omega))).mono ?_
    rintro e w3 ⟨rfl, T3, hk⟩
    have HK3 := Lib.hid (HK2.out.trans hk); clear hk
    obtain ⟨s3, hs3⟩ : ∃ q, bothW s2 (text (x.fault.space)) = q := ⟨_, rfl⟩
    have hl3 : lenS s3 ≤ lenS s + (4 + 65537 + 65537) := hs3 ▸ Nat.le_trans (lenS_le hl2 (textS_len _)) (by omega)
    rw [hs3] at HK3
    have HE3 := Lib.hid hs3; clear hs3
    have hT3 : ¬ T3 P := HK3.out.not hPl hT
    have HB3 := Lib.hid (HTP HK3.out)
    go_wp2_with fail
    refine (m_text (spw_text (x := x.fault.name) HK3.out.at' (HB3.out.c 10 _ rfl) HD.out.name (by have := textS_len (x.fault.name); omega))).mono ?_
    rintro e w4 ⟨rfl, T4, hk⟩
    have HK4 := Lib.hid (HK3.out.trans hk); clear hk
    obtain ⟨s4, hs4⟩ : ∃ q, bothW s3 (text (x.fault.name)) = q := ⟨_, rfl⟩
    have hl4 : lenS s4 ≤ lenS s + (4 + 65537 + 65537 + 65537) := hs4 ▸ Nat.le_trans (lenS_le hl3 (textS_len _)) (by omega)
    rw [hs4] at HK4
    have HE4 := Lib.hid hs4; clear hs4
    have hT4 : ¬ T4 P := HK4.out.not hPl hT
    have HB4 := Lib.hid (HTP HK4.out)
    go_wp2_with fail
    refine (m_texts (spw_texts (x := x.fault.args) HK4.out.at' (HB4.out.c 11 _ rfl) (HK4.out.keep goesArr HR.out.fa HS.out) (by omega))).mono ?_
    rintro e w5 ⟨rfl, T5, hk⟩
    have HK5 := Lib.hid (HK4.out.trans hk); clear hk
    obtain ⟨s5, hs5⟩ : ∃ q, bothW s4 (texts x.fault.args) = q := ⟨_, rfl⟩
    have hl5 : lenS s5 ≤ lenS s + (4 + 65537 + 65537 + 65537 + lenS (texts x.fault.args)) := hs5 ▸ Nat.le_trans (lenS_le hl4 (Nat.le_refl _)) (by omega)
    rw [hs5] at HK5
    have HE5 := Lib.hid hs5; clear hs5
    have hT5 : ¬ T5 P := HK5.out.not hPl hT
    have HB5 := Lib.hid (HTP HK5.out)
    go_wp2_with fail
    first | refine bodyPost_end (results_none rfl _ _ _) rfl ?_ | refine bodyPost_ret (v := .tuple #[]) (results_none rfl _ _ _) rfl ?_
    refine ⟨rfl, T5, HK5.out.as ?_⟩
    rw [HFIN.out, HTL.out, ← HE5.out, ← HE4.out, ← HE3.out]
    simp only [bothS_assoc]
  by_cases h9216 : c = 9216
  · subst h9216
    have HTL : Hid (fltTW x.fault = (bothW (text (x.fault.space)) (text (x.fault.name)))) := Lib.hid (by unfold fltTW; rw [HC.out]; rfl)
    go_wp2_with fail
    refine (m_text (spw_text (x := x.fault.space) HK2.out.at' (HB2.out.c 9 _ rfl) HD.out.space (by have := textS_len (x.fault.space); omega))).mono ?_
    rintro e w3 ⟨rfl, T3, hk⟩
    have HK3 := Lib.hid (HK2.out.trans hk); clear hk
    obtain ⟨s3, hs3⟩ : ∃ q, bothW s2 (text (x.fault.space)) = q := ⟨_, rfl⟩
    have hl3 : lenS s3 ≤ lenS s + (4 + 65537 + 65537) := hs3 ▸ Nat.le_trans (lenS_le hl2 (textS_len _)) (by omega)
    rw [hs3] at HK3
    have HE3 := Lib.hid hs3; clear hs3
    have hT3 : ¬ T3 P := HK3.out.not hPl hT
    have HB3 := Lib.hid (HTP HK3.out)
    go_wp2_with fail
    refine (m_text (spw_text (x := x.fault.name) HK3.out.at' (HB3.out.c 10 _ rfl) HD.out.name (by have := textS_len (x.fault.name); omega))).mono ?_
    rintro e w4 ⟨rfl, T4, hk⟩
    have HK4 := Lib.hid (HK3.out.trans hk); clear hk
    obtain ⟨s4, hs4⟩ : ∃ q, bothW s3 (text (x.fault.name)) = q := ⟨_, rfl⟩
    have hl4 : lenS s4 ≤ lenS s + (4 + 65537 + 65537 + 65537) := hs4 ▸ Nat.le_trans (lenS_le hl3 (textS_len _)) (by omega)
    rw [hs4] at HK4
    have HE4 := Lib.hid hs4; clear hs4
    have hT4 : ¬ T4 P := HK4.out.not hPl hT
    have HB4 := Lib.hid (HTP HK4.out)
    go_wp2_with fail
    first | refine bodyPost_end (results_none rfl _ _ _) rfl ?_ | refine bodyPost_ret (v := .tuple #[]) (results_none rfl _ _ _) rfl ?_
    refine ⟨rfl, T4, HK4.out.as ?_⟩
    rw [HFIN.out, HTL.out, ← HE4.out, ← HE3.out]
    simp only [bothS_assoc]
  by_cases h9472 : c = 9472
  · subst h9472
    have HTL : Hid (fltTW x.fault = (text x.fault.ident)) := Lib.hid (by unfold fltTW; rw [HC.out]; rfl)
    go_wp2_with fail
    refine (wrm_short (x := x.fault.ident) HK2.out.at' (HB2.out.c 12 _ rfl) (HK2.out.keep goesSl HR.out.fi HS.out) HD.out.ident (by have := textS_len x.fault.ident; omega)).mono ?_
    rintro e w3 ⟨rfl, T3, hk⟩
    have HK3 := Lib.hid (HK2.out.trans hk); clear hk
    obtain ⟨s3, hs3⟩ : ∃ q, bothW s2 (text x.fault.ident) = q := ⟨_, rfl⟩
    have hl3 : lenS s3 ≤ lenS s + (4 + 65537 + 65537) := hs3 ▸ Nat.le_trans (lenS_le hl2 (textS_len _)) (by omega)
    rw [hs3] at HK3
    have HE3 := Lib.hid hs3; clear hs3
    have hT3 : ¬ T3 P := HK3.out.not hPl hT
    have HB3 := Lib.hid (HTP HK3.out)
    go_wp2_with fail
    first | refine bodyPost_end (results_none rfl _ _ _) rfl ?_ | refine bodyPost_ret (v := .tuple #[]) (results_none rfl _ _ _) rfl ?_
    refine ⟨rfl, T3, HK3.out.as ?_⟩
    rw [HFIN.out, HTL.out, ← HE3.out]
  have n4096 : ((c : Int) == 4096) = false := beq_eq_false_iff_ne.2 (by omega)
  have n4352 : ((c : Int) == 4352) = false := beq_eq_false_iff_ne.2 (by omega)
  have n4608 : ((c : Int) == 4608) = false := beq_eq_false_iff_ne.2 (by omega)
  have n4864 : ((c : Int) == 4864) = false := beq_eq_false_iff_ne.2 (by omega)
  have n5376 : ((c : Int) == 5376) = false := beq_eq_false_iff_ne.2 (by omega)
  have n5120 : ((c : Int) == 5120) = false := beq_eq_false_iff_ne.2 (by omega)
  have n9216 : ((c : Int) == 9216) = false := beq_eq_false_iff_ne.2 (by omega)
  have n9472 : ((c : Int) == 9472) = false := beq_eq_false_iff_ne.2 (by omega)
  have HTL : Hid (fltTW x.fault = .ok []) := Lib.hid (by unfold fltTW; rw [HC.out, if_neg h4096, if_neg h4352, if_neg h4608, if_neg h4864, if_neg h5376, if_neg h5120, if_neg h9216, if_neg h9472])
  clear h4096 h4352 h4608 h4864 h5376 h5120 h9216 h9472
  go_wp2_with fail
  first | refine bodyPost_end (results_none rfl _ _ _) rfl ?_ | refine bodyPost_ret (v := .tuple #[]) (results_none rfl _ _ _) rfl ?_
  refine ⟨rfl, T2, HK2.out.as ?_⟩
  rw [HFIN.out, HTL.out, bothS_nil]

set_option maxHeartbeats 16000000 in
set_option maxRecDepth 100000 in
theorem wrm_note {T S : Nat → Prop} {w : World} {X P : Nat} {s : Wr} {x : Rp} {t : Trs} (h : StW T w X s) (hB : Bx (fun b => b = P) w P (rpT x t)) (hR : RpR S w x t) (hT : ¬ T P) (hS : ∀ b, S b → ¬ T b) (hD : RpB x) (hl : lenS s + 327685 + lenS (texts x.note.schema.args) ≤ 140737488355328) :
    Calls Tryz.prog 25 #[.pointer (some ⟨X, 0, none⟩), .pointer (some ⟨P, 17, none⟩)] w fun e w' => e = .returned (.tuple #[]) ∧ ∃ T', SW w T w' X (bothW s (nteW x.note)) T' := by
  have HK0 := Lib.hid (SW.refl h); clear h
  have hPl := hB.lt
  have HB0 := Lib.hid hB; clear hB
  have HS := Lib.hid hS; clear hS
  have HR := Lib.hid hR; clear hR
  have HD := Lib.hid hD; clear hD
  have HTP : ∀ {W T' s'}, SW w T W X s' T' → Bx (fun b => b = P) W P (rpT x t) := fun k => k.keep goesBx HB0.out fun b hb e => hT (hb ▸ e)
  go_enter Tryz.func25, Tryz.ntmps25
  go_wp2_with fail
  refine (wrm_word (ws := wdsE) (x := x.note.kind) (S2 := fun b => b = w.heap.size) ((HK0.out.after (by repeat (first | exact Below.refl _ _ | assumption | refine Below.drew ?_ | refine below_drewN ?_ _ | refine Below.alloc ?_ (by simp) _ | refine Below.setCell ?_ (by simp) _)))).at' ((HB0.out.after (by repeat (first | exact Below.refl _ _ | assumption | refine Below.drew ?_ | refine below_drewN ?_ _ | refine Below.alloc ?_ (by simp) _ | refine Below.setCell ?_ (by simp) _))).c 17 _ rfl) hT HD.out.kind (by have := textS_len x.note.kind; omega) (arr_strs (by rfl) (by decide) rfl (by decide)) (fun b hb e => by have := HK0.out.at'.lt b e; omega)).mono ?_
  rintro e w1 ⟨rfl, T1, hk⟩
  have HK1 := Lib.hid ((HK0.out.after (by repeat (first | exact Below.refl _ _ | assumption | refine Below.drew ?_ | refine below_drewN ?_ _ | refine Below.alloc ?_ (by simp) _ | refine Below.setCell ?_ (by simp) _))).trans hk); clear hk
  obtain ⟨s1, hs1⟩ : ∃ s1, bothW s (wordW wdsE x.note.kind) = s1 := ⟨_, rfl⟩
  have hl1 : lenS s1 ≤ lenS s + 65537 := hs1 ▸ lenS_le (Nat.le_refl _) (wordS_len _ _)
  rw [hs1] at HK1
  have HE1 := Lib.hid hs1; clear hs1
  have hT1 : ¬ T1 P := HK1.out.not hPl hT
  have HB1 := Lib.hid (HTP HK1.out)
  have hfin : bothW s (nteW x.note) = bothW s1 (if x.note.kind = wSchema then chgW x.note.schema else bothW (wordW (if x.note.kind = wTopology then wdsN else wdsU) x.note.what) (inet x.note.addr)) := by
    unfold nteW
    rw [← HE1.out, bothS_assoc]
  have HFIN := Lib.hid hfin; clear hfin
  have c1 := HB1.out.c 17 (.string (str x.note.kind)) rfl
  obtain ⟨k, hk⟩ : ∃ k, x.note.kind = k := ⟨_, rfl⟩
  rw [hk] at c1 HFIN
  clear hk
  by_cases hsc : k = wSchema
  · have n1 : (k == [83, 67, 72, 69, 77, 65, 95, 67, 72, 65, 78, 71, 69]) = true := by rw [hsc]; decide
    have HFIN2 := Lib.hid (HFIN.out.trans (by rw [if_pos hsc] : _ = bothW s1 (chgW x.note.schema)))
    clear hsc HFIN
    go_wp2_with fail
    refine (wrm_change (i := 21) (c := x.note.schema) HK1.out.at' HB1.out ⟨rfl, rfl, rfl, rfl, rfl, HK1.out.keep goesArr ((goesRp.mono HR.out (S' := fun b => S b ∧ b < w.heap.size) fun b h1 h2 => ⟨h1, h2⟩).sc) (fun b hb => HS.out b hb.1), HD.out.sch.what, HD.out.sch.target, HD.out.sch.space, HD.out.sch.name⟩ hT1 (fun b hb => HK1.out.not hb.2 (HS.out b hb.1)) (by omega)).mono ?_
    rintro e w2 ⟨rfl, T2, hk⟩
    have HK2 := Lib.hid (HK1.out.trans hk); clear hk
    go_wp2_with fail
    first | refine bodyPost_end (results_none rfl _ _ _) rfl ?_ | refine bodyPost_ret (v := .tuple #[]) (results_none rfl _ _ _) rfl ?_
    exact ⟨rfl, T2, HK2.out.as HFIN2.out.symm⟩
  · have n1 : (k == [83, 67, 72, 69, 77, 65, 95, 67, 72, 65, 78, 71, 69]) = false := beq_eq_false_iff_ne.2 hsc
    have HFIN2 := Lib.hid (HFIN.out.trans (by rw [if_neg hsc] : _ = bothW s1 (bothW (wordW (if k = wTopology then wdsN else wdsU) x.note.what) (inet x.note.addr))))
    clear hsc HFIN
    by_cases htp : k = wTopology
    · have n2 : (k == [84, 79, 80, 79, 76, 79, 71, 89, 95, 67, 72, 65, 78, 71, 69]) = true := by rw [htp]; decide
      have HFIN3 := Lib.hid (HFIN2.out.trans (by rw [if_pos htp] : _ = bothW s1 (bothW (wordW wdsN x.note.what) (inet x.note.addr))))
      clear htp HFIN2
      go_wp2_with fail
      refine (wrm_word (ws := wdsN) (x := x.note.what) (S2 := fun b => b = w1.heap.size) ((HK1.out.after (by repeat (first | exact Below.refl _ _ | assumption | refine Below.drew ?_ | refine below_drewN ?_ _ | refine Below.alloc ?_ (by simp) _ | refine Below.setCell ?_ (by simp) _)))).at' ((HB1.out.after (by repeat (first | exact Below.refl _ _ | assumption | refine Below.drew ?_ | refine below_drewN ?_ _ | refine Below.alloc ?_ (by simp) _ | refine Below.setCell ?_ (by simp) _))).c 18 _ rfl) hT1 HD.out.what (by have := textS_len x.note.what; omega) (arr_strs (by rfl) (by decide) rfl (by decide)) (fun b hb e => by have := HK1.out.at'.lt b e; omega)).mono ?_
      rintro e w2 ⟨rfl, T2, hk⟩
      have HK2 := Lib.hid ((HK1.out.after (by repeat (first | exact Below.refl _ _ | assumption | refine Below.drew ?_ | refine below_drewN ?_ _ | refine Below.alloc ?_ (by simp) _ | refine Below.setCell ?_ (by simp) _))).trans hk); clear hk
      have hl2 : lenS (bothW s1 (wordW wdsN x.note.what)) ≤ lenS s + 65537 + 65537 := lenS_le hl1 (wordS_len _ _)
      have HB2 := Lib.hid (HTP HK2.out)
      go_wp2_with fail
      refine (m_inet (spw_inet (x := x.note.addr) HK2.out.at' (HB2.out.c 19 _ rfl) (HB2.out.c 20 _ rfl) ⟨HK2.out.keep goesSl HR.out.ad HS.out, HD.out.port⟩ (by have := inetS_len x.note.addr; omega))).mono ?_
      rintro e w3 ⟨rfl, T3, hk⟩
      have HK3 := Lib.hid (HK2.out.trans hk); clear hk
      go_wp2_with fail
      first | refine bodyPost_end (results_none rfl _ _ _) rfl ?_ | refine bodyPost_ret (v := .tuple #[]) (results_none rfl _ _ _) rfl ?_
      exact ⟨rfl, T3, HK3.out.as (by rw [HFIN3.out, bothS_assoc])⟩
    · have n2 : (k == [84, 79, 80, 79, 76, 79, 71, 89, 95, 67, 72, 65, 78, 71, 69]) = false := beq_eq_false_iff_ne.2 htp
      have HFIN3 := Lib.hid (HFIN2.out.trans (by rw [if_neg htp] : _ = bothW s1 (bothW (wordW wdsU x.note.what) (inet x.note.addr))))
      clear htp HFIN2
      go_wp2_with fail
      refine (wrm_word (ws := wdsU) (x := x.note.what) (S2 := fun b => b = w1.heap.size) ((HK1.out.after (by repeat (first | exact Below.refl _ _ | assumption | refine Below.drew ?_ | refine below_drewN ?_ _ | refine Below.alloc ?_ (by simp) _ | refine Below.setCell ?_ (by simp) _)))).at' ((HB1.out.after (by repeat (first | exact Below.refl _ _ | assumption | refine Below.drew ?_ | refine below_drewN ?_ _ | refine Below.alloc ?_ (by simp) _ | refine Below.setCell ?_ (by simp) _))).c 18 _ rfl) hT1 HD.out.what (by have := textS_len x.note.what; omega) (arr_strs (by rfl) (by decide) rfl (by decide)) (fun b hb e => by have := HK1.out.at'.lt b e; omega)).mono ?_
      rintro e w2 ⟨rfl, T2, hk⟩
      have HK2 := Lib.hid ((HK1.out.after (by repeat (first | exact Below.refl _ _ | assumption | refine Below.drew ?_ | refine below_drewN ?_ _ | refine Below.alloc ?_ (by simp) _ | refine Below.setCell ?_ (by simp) _))).trans hk); clear hk
      have hl2 : lenS (bothW s1 (wordW wdsU x.note.what)) ≤ lenS s + 65537 + 65537 := lenS_le hl1 (wordS_len _ _)
      have HB2 := Lib.hid (HTP HK2.out)
      go_wp2_with fail
      refine (m_inet (spw_inet (x := x.note.addr) HK2.out.at' (HB2.out.c 19 _ rfl) (HB2.out.c 20 _ rfl) ⟨HK2.out.keep goesSl HR.out.ad HS.out, HD.out.port⟩ (by have := inetS_len x.note.addr; omega))).mono ?_
      rintro e w3 ⟨rfl, T3, hk⟩
      have HK3 := Lib.hid (HK2.out.trans hk); clear hk
      go_wp2_with fail
      first | refine bodyPost_end (results_none rfl _ _ _) rfl ?_ | refine bodyPost_ret (v := .tuple #[]) (results_none rfl _ _ _) rfl ?_
      exact ⟨rfl, T3, HK3.out.as (by rw [HFIN3.out, bothS_assoc])⟩
end Go.Proofs.Sb

/- Walks over reply.stream's result and parts, writing. Conditions: lengths up to 2^47. (written by gen_sto.py) -/
namespace Sb
theorem valueS_len (x : Val) : lenS (value x) ≤ 4 + x.bytes.length := by
  unfold value
  split
  · show 4 ≤ _; omega
  · split
    · show 4 ≤ _; omega
    · split
      · show (long x.bytes).length ≤ _
        unfold long
        rw [List.length_append, enc_length]
        exact Nat.le_refl _
      · show 0 ≤ _; omega
end Sb
namespace Go.Proofs.Sb
open Go.RowKit _root_.Sb
set_option maxHeartbeats 16000000 in
set_option maxRecDepth 100000 in
theorem wrm_result {T S : Nat → Prop} {w : World} {X P : Nat} {s : Wr} {x : Rp} {t : Trs} (h : StW T w X s) (hB : Bx (fun b => b = P) w P (rpT x t)) (hR : RpR S w x t) (hT : ¬ T P) (hS : ∀ b, S b → ¬ T b) (hD : RpB x) (hl : lenS s ≤ 100) :
    Calls Tryz.prog 24 #[.pointer (some ⟨X, 0, none⟩), .pointer (some ⟨P, 0, none⟩)] w fun e w' => e = .returned (.tuple #[]) ∧ ∃ T', SW w T w' X (bothW s (resW x)) T' := by
  have HK0 := Lib.hid (SW.refl h); clear h
  have hPl := hB.lt
  have HB0 := Lib.hid hB; clear hB
  have HS : Hid (∀ b, S b ∧ b < w.heap.size → ¬ T b) := Lib.hid (fun b hb => hS b hb.1); clear hS
  have HR := Lib.hid (goesRp.mono hR (S' := fun b => S b ∧ b < w.heap.size) fun b h1 h2 => ⟨h1, h2⟩); clear hR
  have HD := Lib.hid hD; clear hD
  have HTP : ∀ {W T' s'}, SW w T W X s' T' → Bx (fun b => b = P) W P (rpT x t) := fun k => k.keep goesBx HB0.out fun b hb e => hT (hb ▸ e)
  go_enter Tryz.func24, Tryz.ntmps24
  go_wp2_with fail
  refine (m_code (spw_code (x := x.kind) HK0.out.at' (HB0.out.c 26 _ rfl) HD.out.rkind (by have := encS_len 4 x.kind; omega))).mono ?_
  rintro e w1 ⟨rfl, T1, hk⟩
  have HK1 := Lib.hid (HK0.out.trans hk); clear hk
  have hl1 : lenS (bothW s (.ok (enc 4 x.kind))) ≤ 104 := Nat.le_trans (lenS_le hl (Nat.le_of_eq (encS_len 4 _))) (by omega)
  obtain ⟨s1, hs1⟩ : ∃ q, bothW s (.ok (enc 4 x.kind)) = q := ⟨_, rfl⟩
  rw [hs1] at HK1 hl1
  have HE1 := Lib.hid hs1; clear hs1
  have hT1 : ¬ T1 P := HK1.out.not hPl hT
  have HB1 := Lib.hid (HTP HK1.out)
  have hfin : bothW s (resW x) = bothW s1 (resTW x) := by
    unfold resW
    rw [← HE1.out, bothS_assoc]
  have HFIN := Lib.hid hfin; clear hfin
  have c1 := HB1.out.c 26 (.int .u32 ((x.kind : Nat) : Int)) rfl
  obtain ⟨k, hk⟩ : ∃ k, x.kind = k := ⟨_, rfl⟩
  rw [hk] at c1
  have HC := Lib.hid hk; clear hk
  by_cases h1 : k = 1
  · subst h1
    have HTL : Hid (resTW x = .ok []) := Lib.hid (by unfold resTW; rw [HC.out]; rfl)
    go_wp2_with fail
    first | refine bodyPost_end (results_none rfl _ _ _) rfl ?_ | refine bodyPost_ret (v := .tuple #[]) (results_none rfl _ _ _) rfl ?_
    refine ⟨rfl, T1, HK1.out.as ?_⟩
    rw [HFIN.out, HTL.out, bothS_nil]
  by_cases h3 : k = 3
  · subst h3
    have HTL : Hid (resTW x = text x.text) := Lib.hid (by unfold resTW; rw [HC.out]; rfl)
    go_wp2_with fail
    refine (m_text (spw_text (x := x.text) HK1.out.at' (HB1.out.c 13 _ rfl) HD.out.text (by have := textS_len x.text; omega))).mono ?_
    rintro e w2 ⟨rfl, T2, hk⟩
    have HK2 := Lib.hid (HK1.out.trans hk); clear hk
    go_wp2_with fail
    first | refine bodyPost_end (results_none rfl _ _ _) rfl ?_ | refine bodyPost_ret (v := .tuple #[]) (results_none rfl _ _ _) rfl ?_
    refine ⟨rfl, T2, HK2.out.as ?_⟩
    rw [HFIN.out, HTL.out]
  by_cases h5 : k = 5
  · subst h5
    have HTL : Hid (resTW x = chgW x.change) := Lib.hid (by unfold resTW; rw [HC.out]; rfl)
    go_wp2_with fail
    refine (wrm_change (i := 27) (c := x.change) HK1.out.at' HB1.out ⟨rfl, rfl, rfl, rfl, rfl, HK1.out.keep goesArr HR.out.cg (fun b hb => HS.out b hb), HD.out.chg.what, HD.out.chg.target, HD.out.chg.space, HD.out.chg.name⟩ hT1 (fun b hb => HK1.out.not hb.2 (HS.out b hb)) (by have := HD.out.lcg; omega)).mono ?_
    rintro e w2 ⟨rfl, T2, hk⟩
    have HK2 := Lib.hid (HK1.out.trans hk); clear hk
    go_wp2_with fail
    first | refine bodyPost_end (results_none rfl _ _ _) rfl ?_ | refine bodyPost_ret (v := .tuple #[]) (results_none rfl _ _ _) rfl ?_
    refine ⟨rfl, T2, HK2.out.as ?_⟩
    rw [HFIN.out, HTL.out]
  by_cases h4 : k = 4
  · subst h4
    have HTL : Hid (resTW x = bothW (text x.ident) (.ok x.rest)) := Lib.hid (by unfold resTW; rw [HC.out]; rfl)
    go_wp2_with fail
    refine (wrm_short (x := x.ident) HK1.out.at' (HB1.out.c 32 _ rfl) (HK1.out.keep goesSl HR.out.idn HS.out) HD.out.ident (by have := textS_len x.ident; omega)).mono ?_
    rintro e w2 ⟨rfl, T2, hk⟩
    have HK2 := Lib.hid (HK1.out.trans hk); clear hk
    have hl2 : lenS (bothW s1 (text x.ident)) ≤ 65700 := Nat.le_trans (lenS_le hl1 (textS_len _)) (by omega)
    have HB2 := Lib.hid (HTP HK2.out)
    go_wp2_with fail
    refine (m_all (spw_all (x := x.rest) HK2.out.at' (HB2.out.c 33 _ rfl) (HK2.out.keep goesSl HR.out.rs HS.out) (by have := HD.out.rest; show _ + x.rest.length ≤ _; omega))).mono ?_
    rintro e w3 ⟨rfl, T3, hk⟩
    have HK3 := Lib.hid (HK2.out.trans hk); clear hk
    go_wp2_with fail
    first | refine bodyPost_end (results_none rfl _ _ _) rfl ?_ | refine bodyPost_ret (v := .tuple #[]) (results_none rfl _ _ _) rfl ?_
    refine ⟨rfl, T3, HK3.out.as ?_⟩
    rw [HFIN.out, HTL.out, bothS_assoc]
  by_cases h2 : k = 2
  · subst h2
    have HTL : Hid (resTW x = .ok x.rest) := Lib.hid (by unfold resTW; rw [HC.out]; rfl)
    go_wp2_with fail
    refine (m_all (spw_all (x := x.rest) HK1.out.at' (HB1.out.c 33 _ rfl) (HK1.out.keep goesSl HR.out.rs HS.out) (by have := HD.out.rest; show _ + x.rest.length ≤ _; omega))).mono ?_
    rintro e w2 ⟨rfl, T2, hk⟩
    have HK2 := Lib.hid (HK1.out.trans hk); clear hk
    go_wp2_with fail
    first | refine bodyPost_end (results_none rfl _ _ _) rfl ?_ | refine bodyPost_ret (v := .tuple #[]) (results_none rfl _ _ _) rfl ?_
    refine ⟨rfl, T2, HK2.out.as ?_⟩
    rw [HFIN.out, HTL.out]
  have n1 : ((k : Int) == 1) = false := beq_eq_false_iff_ne.2 (by omega)
  have n3 : ((k : Int) == 3) = false := beq_eq_false_iff_ne.2 (by omega)
  have n5 : ((k : Int) == 5) = false := beq_eq_false_iff_ne.2 (by omega)
  have n4 : ((k : Int) == 4) = false := beq_eq_false_iff_ne.2 (by omega)
  have n2 : ((k : Int) == 2) = false := beq_eq_false_iff_ne.2 (by omega)
  have HTL : Hid (resTW x = .error 11) := Lib.hid (by unfold resTW; rw [HC.out, if_neg h1, if_neg h3, if_neg h5, if_neg h4, if_neg h2])
  clear h1 h3 h5 h4 h2
  go_wp2_with fail
  refine (wrm_must HK1.out.at').mono ?_
  rintro e w2 ⟨rfl, T2, hk⟩
  have HK2 := Lib.hid (HK1.out.trans hk); clear hk
  go_wp2_with fail
  first | refine bodyPost_end (results_none rfl _ _ _) rfl ?_ | refine bodyPost_ret (v := .tuple #[]) (results_none rfl _ _ _) rfl ?_
  refine ⟨rfl, T2, HK2.out.as ?_⟩
  rw [HFIN.out, HTL.out]
  rfl

set_option maxHeartbeats 16000000 in
set_option maxRecDepth 100000 in
theorem wrm_parts {T S : Nat → Prop} {w : World} {X P : Nat} {x : Rp} {t : Trs} (h : StW T w X (.ok [])) (hB : Bx (fun b => b = P) w P (rpT x t)) (hR : RpR S w x t) (hT : ¬ T P) (hS : ∀ b, S b → ¬ T b) (hD : RpB x) (hM : ∃ M, (∀ y ∈ x.support, ∀ b, multiW y = .ok b → b.length ≤ M) ∧ 2 + x.support.length * M ≤ 140737488000000) :
    Calls Tryz.prog 13 #[.pointer (some ⟨X, 0, none⟩), .pointer (some ⟨P, 0, none⟩)] w fun e w' => e = .returned (.tuple #[]) ∧ ∃ T', SW w T w' X (putRp x) T' := by
  obtain ⟨s, hs⟩ : ∃ s : Wr, .ok [] = s := ⟨_, rfl⟩
  rw [hs] at h
  have hl : lenS s ≤ 0 := by rw [← hs]; exact Nat.le_refl _
  have HNIL : Hid (∀ r : Wr, bothW s r = r) := Lib.hid (fun r => by rw [← hs]; cases r <;> rfl)
  have HE0 := Lib.hid hs; clear hs
  have HM := Lib.hid hM; clear hM
  obtain ⟨A, n, c, bs, h1, h2, h3, h4, h5⟩ := h.ex
  have HO := Lib.hid h1; clear h1
  have HBX := Lib.hid h2; clear h2
  have H3 := Lib.hid h3; clear h3 h4 h5
  have k2 := HBX.out.c 2 _ rfl
  have f2 := HBX.out.fr 2
  have HK0 := Lib.hid (SW.refl h); clear h
  have hPl := hB.lt
  have HB0 := Lib.hid hB; clear hB
  have HS : Hid (∀ b, S b ∧ b < w.heap.size → ¬ T b) := Lib.hid (fun b hb => hS b hb.1); clear hS
  have HR := Lib.hid (goesRp.mono hR (S' := fun b => S b ∧ b < w.heap.size) fun b h1 h2 => ⟨h1, h2⟩); clear hR
  have HD := Lib.hid hD; clear hD
  have HTP : ∀ {W T' s'}, SW w T W X s' T' → Bx (fun b => b = P) W P (rpT x t) := fun k => k.keep goesBx HB0.out fun b hb e => hT (hb ▸ e)
  have c1 := HB0.out.c 0 (.int .u8 ((x.opcode : Nat) : Int)) rfl
  obtain ⟨op, ho⟩ : ∃ k, x.opcode = k := ⟨_, rfl⟩
  rw [ho] at c1
  have HC := Lib.hid ho; clear ho
  go_enter Tryz.func13, Tryz.ntmps13
  by_cases h0 : op = 0
  · subst h0
    have HTL : Hid (putRp x = fltW x.fault) := Lib.hid (by unfold putRp; rw [HC.out]; rfl)
    go_wp2_with fail
    refine (wrm_fault HK0.out.at' HB0.out HR.out hT HS.out HD.out.flt (by have := HD.out.lfa; omega)).mono ?_
    rintro e w1 ⟨rfl, T1, hk⟩
    have HK1 := Lib.hid (HK0.out.trans hk); clear hk
    go_wp2_with fail
    first | refine bodyPost_end (results_none rfl _ _ _) rfl ?_ | refine bodyPost_ret (v := .tuple #[]) (results_none rfl _ _ _) rfl ?_
    refine ⟨rfl, T1, HK1.out.as ?_⟩
    rw [HTL.out, HNIL.out]
  by_cases h2 : op = 2
  · subst h2
    have HTL : Hid (putRp x = .ok []) := Lib.hid (by unfold putRp; rw [HC.out]; rfl)
    go_wp2_with fail
    first | refine bodyPost_end (results_none rfl _ _ _) rfl ?_ | refine bodyPost_ret (v := .tuple #[]) (results_none rfl _ _ _) rfl ?_
    refine ⟨rfl, T, HK0.out.as ?_⟩
    rw [HTL.out, HE0.out]
  by_cases h3 : op = 3
  · subst h3
    have HTL : Hid (putRp x = text x.text) := Lib.hid (by unfold putRp; rw [HC.out]; rfl)
    go_wp2_with fail
    refine (m_text (spw_text (x := x.text) HK0.out.at' (HB0.out.c 13 _ rfl) HD.out.text (by have := textS_len x.text; omega))).mono ?_
    rintro e w1 ⟨rfl, T1, hk⟩
    have HK1 := Lib.hid (HK0.out.trans hk); clear hk
    go_wp2_with fail
    first | refine bodyPost_end (results_none rfl _ _ _) rfl ?_ | refine bodyPost_ret (v := .tuple #[]) (results_none rfl _ _ _) rfl ?_
    refine ⟨rfl, T1, HK1.out.as ?_⟩
    rw [HTL.out, HNIL.out]
  by_cases h6 : op = 6
  · subst h6
    have HTL : Hid (putRp x = putL multiW x.support) := Lib.hid (by unfold putRp; rw [HC.out]; rfl)
    obtain ⟨M, hM1, hM2⟩ := HM.out
    have hlm : lenS (putL multiW x.support) ≤ 2 + x.support.length * M := by
      cases hp : putL multiW x.support with
      | error e => exact Nat.zero_le _
      | ok b => exact (putL_len hM1 hp).2
    go_wp2_with fail
    refine (m_multis (spw_multis (M := M) (x := x.support) HK0.out.at' (HB0.out.c 14 _ rfl) ⟨HR.out.su, hM1, fun _ => by omega⟩ (by omega))).mono ?_
    rintro e w1 ⟨rfl, T1, hk⟩
    have HK1 := Lib.hid (HK0.out.trans hk); clear hk
    go_wp2_with fail
    first | refine bodyPost_end (results_none rfl _ _ _) rfl ?_ | refine bodyPost_ret (v := .tuple #[]) (results_none rfl _ _ _) rfl ?_
    refine ⟨rfl, T1, HK1.out.as ?_⟩
    rw [HTL.out, HNIL.out]
  by_cases h8 : op = 8
  · subst h8
    have HTL : Hid (putRp x = resW x) := Lib.hid (by unfold putRp; rw [HC.out]; rfl)
    go_wp2_with fail
    refine (wrm_result HK0.out.at' HB0.out HR.out hT HS.out HD.out (by omega)).mono ?_
    rintro e w1 ⟨rfl, T1, hk⟩
    have HK1 := Lib.hid (HK0.out.trans hk); clear hk
    go_wp2_with fail
    first | refine bodyPost_end (results_none rfl _ _ _) rfl ?_ | refine bodyPost_ret (v := .tuple #[]) (results_none rfl _ _ _) rfl ?_
    refine ⟨rfl, T1, HK1.out.as ?_⟩
    rw [HTL.out, HNIL.out]
  by_cases h12 : op = 12
  · subst h12
    have HTL : Hid (putRp x = nteW x.note) := Lib.hid (by unfold putRp; rw [HC.out]; rfl)
    go_wp2_with fail
    refine (wrm_note HK0.out.at' HB0.out HR.out hT HS.out HD.out (by have := HD.out.lsc; omega)).mono ?_
    rintro e w1 ⟨rfl, T1, hk⟩
    have HK1 := Lib.hid (HK0.out.trans hk); clear hk
    go_wp2_with fail
    first | refine bodyPost_end (results_none rfl _ _ _) rfl ?_ | refine bodyPost_ret (v := .tuple #[]) (results_none rfl _ _ _) rfl ?_
    refine ⟨rfl, T1, HK1.out.as ?_⟩
    rw [HTL.out, HNIL.out]
  by_cases h14 : op = 14
  · subst h14
    have HTL : Hid (putRp x = value x.token) := Lib.hid (by unfold putRp; rw [HC.out]; rfl)
    go_wp2_with fail
    refine (m_value (spw_value (x := x.token) HK0.out.at' (HB0.out.c 15 _ rfl) (HB0.out.c 16 _ rfl) ⟨HR.out.tk, by have := HR.out.tk.len; have := HD.out.token; omega⟩ (by have := valueS_len x.token; have := HD.out.token; omega))).mono ?_
    rintro e w1 ⟨rfl, T1, hk⟩
    have HK1 := Lib.hid (HK0.out.trans hk); clear hk
    go_wp2_with fail
    first | refine bodyPost_end (results_none rfl _ _ _) rfl ?_ | refine bodyPost_ret (v := .tuple #[]) (results_none rfl _ _ _) rfl ?_
    refine ⟨rfl, T1, HK1.out.as ?_⟩
    rw [HTL.out, HNIL.out]
  by_cases h16 : op = 16
  · subst h16
    have HTL : Hid (putRp x = value x.token) := Lib.hid (by unfold putRp; rw [HC.out]; rfl)
    go_wp2_with fail
    refine (m_value (spw_value (x := x.token) HK0.out.at' (HB0.out.c 15 _ rfl) (HB0.out.c 16 _ rfl) ⟨HR.out.tk, by have := HR.out.tk.len; have := HD.out.token; omega⟩ (by have := valueS_len x.token; have := HD.out.token; omega))).mono ?_
    rintro e w1 ⟨rfl, T1, hk⟩
    have HK1 := Lib.hid (HK0.out.trans hk); clear hk
    go_wp2_with fail
    first | refine bodyPost_end (results_none rfl _ _ _) rfl ?_ | refine bodyPost_ret (v := .tuple #[]) (results_none rfl _ _ _) rfl ?_
    refine ⟨rfl, T1, HK1.out.as ?_⟩
    rw [HTL.out, HNIL.out]
  have n0 : ((op : Int) == 0) = false := beq_eq_false_iff_ne.2 (by omega)
  have n2 : ((op : Int) == 2) = false := beq_eq_false_iff_ne.2 (by omega)
  have n3 : ((op : Int) == 3) = false := beq_eq_false_iff_ne.2 (by omega)
  have n6 : ((op : Int) == 6) = false := beq_eq_false_iff_ne.2 (by omega)
  have n8 : ((op : Int) == 8) = false := beq_eq_false_iff_ne.2 (by omega)
  have n12 : ((op : Int) == 12) = false := beq_eq_false_iff_ne.2 (by omega)
  have n14 : ((op : Int) == 14) = false := beq_eq_false_iff_ne.2 (by omega)
  have n16 : ((op : Int) == 16) = false := beq_eq_false_iff_ne.2 (by omega)
  have HTL : Hid (putRp x = .error 22) := Lib.hid (by unfold putRp; rw [HC.out, if_neg h0, if_neg h2, if_neg h3, if_neg h6, if_neg h8, if_neg h12, if_neg (by omega)])
  clear h0 h2 h3 h6 h8 h12 h14 h16
  go_wp2_with fail
  first | refine bodyPost_end (results_none rfl _ _ _) rfl ?_ | refine bodyPost_ret (v := .tuple #[]) (results_none rfl _ _ _) rfl ?_
  have hf : Fr (fun b => b = X) w (w.setCell ⟨X, 2, none⟩ (.int .i64 22)) := Fr.set (S := fun b => b = X) _ (X := X) rfl _
  have HA := HK0.out.at'
  have hX : T X := HA.mem
  refine ⟨rfl, T, ⟨hX, fun b hb => Nat.lt_of_lt_of_le (HA.lt b hb) hf.size, A, n, c, bs, ?_, ?_, H3.out, ?_, ?_⟩, Fr.set (S := T) _ (X := X) hX _, fun b h => .inl h⟩
  · have hO : OwnB (fun b => T b ∧ b ≠ X) w A n c bs := ⟨HO.out.1, fun b e => ⟨HO.out.2 b e, H3.out b e⟩⟩
    exact (goesOwnB.keep hO hf.size fun b hb hl => hf.block b hl hb.2).mono fun b hb _ => hb.1
  · rw [HTL.out]
    exact HBX.out.put 2 _ (by show 2 < 3; decide)
  · rw [HTL.out]
    exact fun b e => (by cases e)
  · rw [HTL.out]
    exact fun e he => (by injection he with he; subst he; decide)
end Go.Proofs.Sb
