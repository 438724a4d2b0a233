/- Walk over request.Put. Conditions: sums of lengths up to 2^47. (written by gen_rqwp.py) -/
import Derived.Test.YtdgmkmadlnmhbaaRqe
set_option linter.unusedVariables false
set_option linter.unusedSimpArgs false
namespace Sb
/-- a request's body -/
def putRq (q : Rq) : Wr :=
  if q.opcode = 1 then putL pairW q.options
  else if q.opcode = 5 then .ok []
  else if q.opcode = 7 then bothW (.ok (long q.text)) (runQ false q.run)
  else if q.opcode = 9 then .ok (long q.text)
  else if q.opcode = 10 then bothW (text q.ident) (runQ false q.run)
  else if q.opcode = 11 then texts q.events
  else if q.opcode = 15 then value q.token
  else if q.opcode = 13 then batchQ q
  else .error 22
def knownOp (op : Nat) : Prop := op = 1 ∨ op = 5 ∨ op = 7 ∨ op = 9 ∨ op = 10 ∨ op = 11 ∨ op = 15 ∨ op = 13
theorem put_not {q : Rq} (h : ¬ knownOp q.opcode) : putRq q = .error 22 := by
  unfold knownOp at h
  unfold putRq
  rw [if_neg (by omega), if_neg (by omega), if_neg (by omega), if_neg (by omega), if_neg (by omega), if_neg (by omega), if_neg (by omega), if_neg (by omega)]
theorem bothW_left (r : Wr) : bothW (.ok []) r = r := by cases r <;> rfl
theorem pairs_w (l : List (B × B)) : lenW (putL pairW l) ≤ 8590000000 := by
  cases h : putL pairW l with
  | error e => exact Nat.zero_le _
  | ok b =>
    have := putL_len (M := 131074) (fun x _ b h => pairW_len h) h
    have h2 : l.length * 131074 ≤ 65535 * 131074 := Nat.mul_le_mul_right _ this.1
    show b.length ≤ _
    omega
theorem texts_w (l : List B) : lenW (texts l) ≤ 4295000000 := by
  cases h : texts l with
  | error e => exact Nat.zero_le _
  | ok b =>
    have := texts_len h
    have h2 : l.length * 65537 ≤ 65535 * 65537 := Nat.mul_le_mul_right _ this.2
    show b.length ≤ _
    omega
/-- what is written is small enough -/
def costQ (q : Rq) : Nat := 2 * costA q.all + costR q.run + q.text.length + q.ident.length + q.token.bytes.length
end Sb
namespace Go.Proofs.Sb
open Go.RowKit _root_.Sb
set_option maxHeartbeats 8000000 in
set_option maxRecDepth 100000 in
theorem wPut_any {S : Nat → Prop} {w : World} {q : Rq} {o i r1 r2 r3 ev t al : Slc} (hq : RqR S w q o i r1 r2 r3 ev t al) (hop : q.opcode < 256) (hkd : q.kind < 256) (hpn : ParN q.run) (hl : costQ q ≤ 140737488200000) (r : Wr) (hr : putRq q = r) :
    Calls Try.prog 11 #[.agg (rqV q o i r1 r2 r3 ev t al).toArray] w fun e w' => ∃ A n c, e = .returned (.tuple #[.slice A n c, .int .i64 (werr r)]) ∧ Sl (fun b => w.heap.size ≤ b) w' A n c (wval r) ∧ Below w.heap.size w w' := by
  obtain ⟨op, opts, tx, idn, run, evs, tok, kd, all⟩ := q
  have HP := Lib.hid (goesRq.mono (S' := fun b => S b ∧ b < w.heap.size) hq fun b h1 h2 => ⟨h1, h2⟩); clear hq
  replace HP : Hid (RqR (fun b => S b ∧ b < w.heap.size) w ⟨op, opts, tx, idn, run, evs, tok, kd, all⟩ o i r1 r2 r3 ev t al) := HP
  have HPN : Hid (ParN run) := Lib.hid hpn; clear hpn
  replace hop : op < 256 := hop
  replace hkd : kd < 256 := hkd
  replace hl : 2 * costA all + costR run + tx.length + idn.length + tok.bytes.length ≤ 140737488200000 := hl
  have HR := Lib.hid hr; clear hr
  simp only [rqV]
  go_enter Try.func11, Try.ntmps11
  go_upto_block 0 with fail
  obtain ⟨w1, hw1⟩ : ∃ w1, w1 = ((w.alloc (.cells [.int .u8 (op : Int), .slice o.a o.n o.c, .string (str tx), .slice i.a i.n i.c, .int .u16 (run.cons : Int), .slice r1.a r1.n r1.c, .slice r2.a r2.n r2.c, .bool run.skip, .bool run.paged, .int .i32 run.page, .bool run.resumed, .int .i64 run.state.kind, .slice r3.a r3.n r3.c, .bool run.serially, .int .u16 (run.serial : Int), .bool run.timed, .int .i64 run.time, .slice ev.a ev.n ev.c, .int .i64 tok.kind, .slice t.a t.n t.c, .int .u8 (kd : Int), .slice al.a al.n al.c].toArray 33)).alloc (.cells #[.slice none 0 0, .int .i64 0] 65)) := ⟨_, rfl⟩
  rw [← hw1]
  have b1 : Below w.heap.size w (w.alloc (.cells [.int .u8 (op : Int), .slice o.a o.n o.c, .string (str tx), .slice i.a i.n i.c, .int .u16 (run.cons : Int), .slice r1.a r1.n r1.c, .slice r2.a r2.n r2.c, .bool run.skip, .bool run.paged, .int .i32 run.page, .bool run.resumed, .int .i64 run.state.kind, .slice r3.a r3.n r3.c, .bool run.serially, .int .u16 (run.serial : Int), .bool run.timed, .int .i64 run.time, .slice ev.a ev.n ev.c, .int .i64 tok.kind, .slice t.a t.n t.c, .int .u8 (kd : Int), .slice al.a al.n al.c].toArray 33)) := (Below.refl _ _).alloc (Nat.le_refl _) _
  have b2 : Below (w.alloc (.cells [.int .u8 (op : Int), .slice o.a o.n o.c, .string (str tx), .slice i.a i.n i.c, .int .u16 (run.cons : Int), .slice r1.a r1.n r1.c, .slice r2.a r2.n r2.c, .bool run.skip, .bool run.paged, .int .i32 run.page, .bool run.resumed, .int .i64 run.state.kind, .slice r3.a r3.n r3.c, .bool run.serially, .int .u16 (run.serial : Int), .bool run.timed, .int .i64 run.time, .slice ev.a ev.n ev.c, .int .i64 tok.kind, .slice t.a t.n t.c, .int .u8 (kd : Int), .slice al.a al.n al.c].toArray 33)).heap.size (w.alloc (.cells [.int .u8 (op : Int), .slice o.a o.n o.c, .string (str tx), .slice i.a i.n i.c, .int .u16 (run.cons : Int), .slice r1.a r1.n r1.c, .slice r2.a r2.n r2.c, .bool run.skip, .bool run.paged, .int .i32 run.page, .bool run.resumed, .int .i64 run.state.kind, .slice r3.a r3.n r3.c, .bool run.serially, .int .u16 (run.serial : Int), .bool run.timed, .int .i64 run.time, .slice ev.a ev.n ev.c, .int .i64 tok.kind, .slice t.a t.n t.c, .int .u8 (kd : Int), .slice al.a al.n al.c].toArray 33)) w1 := by rw [hw1]; exact (Below.refl _ _).alloc (Nat.le_refl _) _
  have hz0 : (w.alloc (.cells [.int .u8 (op : Int), .slice o.a o.n o.c, .string (str tx), .slice i.a i.n i.c, .int .u16 (run.cons : Int), .slice r1.a r1.n r1.c, .slice r2.a r2.n r2.c, .bool run.skip, .bool run.paged, .int .i32 run.page, .bool run.resumed, .int .i64 run.state.kind, .slice r3.a r3.n r3.c, .bool run.serially, .int .u16 (run.serial : Int), .bool run.timed, .int .i64 run.time, .slice ev.a ev.n ev.c, .int .i64 tok.kind, .slice t.a t.n t.c, .int .u8 (kd : Int), .slice al.a al.n al.c].toArray 33)).heap.size = w.heap.size + 1 := World.size_alloc _ _
  have hz1 : w1.heap.size = w.heap.size + 2 := by rw [hw1]; simp
  have hB1 : Below w.heap.size w w1 := by rw [hw1]; exact b1.alloc (by rw [hz0]; omega) _
  have I1 : Hid (RunW w1 (fun b => b = w.heap.size + 1) w1 (w.heap.size + 1) (.ok []) (fun b => b = w.heap.size + 1) w.heap.size [.int .u8 (op : Int), .slice o.a o.n o.c, .string (str tx), .slice i.a i.n i.c, .int .u16 (run.cons : Int), .slice r1.a r1.n r1.c, .slice r2.a r2.n r2.c, .bool run.skip, .bool run.paged, .int .i32 run.page, .bool run.resumed, .int .i64 run.state.kind, .slice r3.a r3.n r3.c, .bool run.serially, .int .u16 (run.serial : Int), .bool run.timed, .int .i64 run.time, .slice ev.a ev.n ev.c, .int .i64 tok.kind, .slice t.a t.n t.c, .int .u8 (kd : Int), .slice al.a al.n al.c]) := by
    have k3 : Bx (fun b => b = w.heap.size + 1) w1 (w.heap.size + 1) [.slice none 0 0, .int .i64 0] := by
      rw [hw1]
      exact Bx.alloc _ #[.slice none 0 0, .int .i64 0] 65 (X := w.heap.size + 1) (S := fun b => b = w.heap.size + 1) (by simp) (by simp)
    exact ⟨WS.refl ⟨rfl, fun b hb => by rw [hz1, hb]; omega, none, 0, 0, [], OwnB.nil, k3, (fun b e => by cases e), (fun b e => by injection e), fun e h => by cases h⟩, goesBx.after (Bx.alloc w [.int .u8 (op : Int), .slice o.a o.n o.c, .string (str tx), .slice i.a i.n i.c, .int .u16 (run.cons : Int), .slice r1.a r1.n r1.c, .slice r2.a r2.n r2.c, .bool run.skip, .bool run.paged, .int .i32 run.page, .bool run.resumed, .int .i64 run.state.kind, .slice r3.a r3.n r3.c, .bool run.serially, .int .u16 (run.serial : Int), .bool run.timed, .int .i64 run.time, .slice ev.a ev.n ev.c, .int .i64 tok.kind, .slice t.a t.n t.c, .int .u8 (kd : Int), .slice al.a al.n al.c].toArray 33 (S := fun b => b = w.heap.size) rfl rfl) b2, fun e => by omega⟩
  have HP1 := Lib.hid (goesRq.after HP.out hB1)
  have HB1 := Lib.hid hB1; clear hB1
  have HT1 : Hid (∀ b, (S b ∧ b < w.heap.size) → ¬ b = w.heap.size + 1) := Lib.hid (fun b h e => by have := h.2; omega)
  clear b1 b2 hz0 hw1
  by_cases hk : knownOp op
  · obtain ⟨sF, hsF⟩ : ∃ s, s = putRq ⟨op, opts, tx, idn, run, evs, tok, kd, all⟩ := ⟨_, rfl⟩
    have HSF := Lib.hid hsF; clear hsF
    go_cut [] (fun wx => ∃ T', Hid (RunW w1 (fun b => b = w.heap.size + 1) wx (w.heap.size + 1) sF T' w.heap.size [.int .u8 (op : Int), .slice o.a o.n o.c, .string (str tx), .slice i.a i.n i.c, .int .u16 (run.cons : Int), .slice r1.a r1.n r1.c, .slice r2.a r2.n r2.c, .bool run.skip, .bool run.paged, .int .i32 run.page, .bool run.resumed, .int .i64 run.state.kind, .slice r3.a r3.n r3.c, .bool run.serially, .int .u16 (run.serial : Int), .bool run.timed, .int .i64 run.time, .slice ev.a ev.n ev.c, .int .i64 tok.kind, .slice t.a t.n t.c, .int .u8 (kd : Int), .slice al.a al.n al.c]))
    case first =>
      rcases hk with rfl | rfl | rfl | rfl | rfl | rfl | rfl | rfl
      · skip
        have k1 := I1.out.box.c 1 _ rfl
        have q2 := I1.out.box.lt
        go_wp2_with fail
        refine (pairs_any (M := 131074) (HP1.out.options) (fun x _ b h => pairW_len h) (fun h => by have : opts.length * 131074 ≤ 65535 * 131074 := Nat.mul_le_mul_right _ h; omega) (putL pairW opts) rfl).mono ?_
        rintro e5 w5 ⟨A5, m5, c5, rfl, ho, hb⟩
        have HO := Lib.hid ho.slb; clear ho
        have J1 := Lib.hid (I1.out.after hb); clear hb
        have hlv : (wval (putL pairW opts)).length ≤ 8590000000 := by rw [lenW_val]; first | exact value_le _ | exact pairs_w _ | exact texts_w _
        have HRN := Lib.hid (fun x (e : putL pairW opts = .error x) => putL_ne (fun _ _ h => pairW_ne h) e)
        obtain ⟨rv, hrv⟩ : ∃ x, x = putL pairW opts := ⟨_, rfl⟩
        rw [← hrv] at HO hlv HRN ⊢
        have HRV := Lib.hid hrv; clear hrv
        go_wp2_with fail
        refine (wput_any J1.out.ws.at' HO.out rv rfl (fun b e => by rw [e]; rfl) HRN.out (by show 0 + (wval rv).length ≤ _; omega)).mono ?_
        rintro e6 w6 ⟨rfl, T6, hk6⟩
        have J2 := Lib.hid ((J1.out.step hk6).as (s' := rv) (bothW_left _)); clear hk6
        clear q2 k1
        go_wp2_with fail
        go_meet
        exact ⟨T6, J2.out.as (by rw [HSF.out, HRV.out]; rfl)⟩
      · skip
        go_wp2_with fail
        go_meet
        exact ⟨_, I1.out.as (by rw [HSF.out]; rfl)⟩
      · skip
        have k2 := I1.out.box.c 2 _ rfl
        have q2 := I1.out.box.lt
        go_wp2_with fail
        refine (long_any tx _ (by omega)).mono ?_
        rintro e5 w5 ⟨A5, m5, c5, rfl, ho, hb⟩
        have HO := Lib.hid ho.slb; clear ho
        have J1 := Lib.hid (I1.out.after hb); clear hb
        have hlw := long_w tx
        obtain ⟨lw, hlw2⟩ : ∃ y, y = long tx := ⟨_, rfl⟩
        rw [← hlw2] at HO hlw
        have HLW := Lib.hid hlw2; clear hlw2
        go_wp2_with fail
        refine (wput_any J1.out.ws.at' HO.out (.ok lw) rfl (fun b e => by injection e) (fun x e => by cases e) (by show 0 + lw.length ≤ _; omega)).mono ?_
        rintro e6 w6 ⟨rfl, T6, hk6⟩
        have J2 := Lib.hid ((J1.out.step hk6).as (s' := .ok lw) (bothW_left _)); clear hk6
        clear q2 k2
        have q2 := J2.out.box.lt
        go_wp2_with (first | (refine wpList_load_mid (by rfl) 30 _ (by rfl) w.heap.size 4 (by rfl) (parV run r1.a r1.n r1.c r2.a r2.n r2.c r3.a r3.n r3.c) _ (J2.out.box.range_at (by rfl)) Try.underlying30 rfl (by kernel_rfl) ?_))
        have HPR := Lib.hid (J2.out.ws.keep goesPar HP1.out.run HT1.out)
        have HSC := Lib.hid (fun b (hb : S b ∧ b < w.heap.size) => (⟨by have := hb.2; have := J2.out.ws.size; omega, J2.out.ws.not (by have := hb.2; omega) (HT1.out b hb)⟩ : b < w6.heap.size ∧ ¬ T6 b))
        refine (wrun_any (p := run) (batch := false) J2.out.ws.at' HPR.out HSC.out HPN.out.cons HPN.out.serial HPN.out.page HPN.out.time (by have : lenW (.ok lw) = lw.length := rfl; unfold costR at hl; omega)).mono ?_
        rintro e9 w9 ⟨rfl, T9, hk9⟩
        have J9 := Lib.hid (J2.out.step hk9); clear hk9
        go_wp2_with fail
        go_meet
        exact ⟨T9, J9.out.as (by rw [HSF.out, HLW.out]; rfl)⟩
      · skip
        have k2 := I1.out.box.c 2 _ rfl
        have q2 := I1.out.box.lt
        go_wp2_with fail
        refine (long_any tx _ (by omega)).mono ?_
        rintro e5 w5 ⟨A5, m5, c5, rfl, ho, hb⟩
        have HO := Lib.hid ho.slb; clear ho
        have J1 := Lib.hid (I1.out.after hb); clear hb
        have hlw := long_w tx
        obtain ⟨lw, hlw2⟩ : ∃ y, y = long tx := ⟨_, rfl⟩
        rw [← hlw2] at HO hlw
        have HLW := Lib.hid hlw2; clear hlw2
        go_wp2_with fail
        refine (wput_any J1.out.ws.at' HO.out (.ok lw) rfl (fun b e => by injection e) (fun x e => by cases e) (by show 0 + lw.length ≤ _; omega)).mono ?_
        rintro e6 w6 ⟨rfl, T6, hk6⟩
        have J2 := Lib.hid ((J1.out.step hk6).as (s' := .ok lw) (bothW_left _)); clear hk6
        clear q2 k2
        go_wp2_with fail
        go_meet
        exact ⟨T6, J2.out.as (by rw [HSF.out, HLW.out]; rfl)⟩
      · skip
        have k3 := I1.out.box.c 3 _ rfl
        have q2 := I1.out.box.lt
        go_wp2_with fail
        refine (wshort_any I1.out.ws.at' HP1.out.ident HT1.out (by show 0 + idn.length ≤ _; omega)).mono ?_
        rintro e6 w6 ⟨rfl, T6, hk6⟩
        have J2 := Lib.hid ((I1.out.step hk6).as (s' := text idn) (bothW_left _)); clear hk6
        clear q2 k3
        have q2 := J2.out.box.lt
        go_wp2_with (first | (refine wpList_load_mid (by rfl) 30 _ (by rfl) w.heap.size 4 (by rfl) (parV run r1.a r1.n r1.c r2.a r2.n r2.c r3.a r3.n r3.c) _ (J2.out.box.range_at (by rfl)) Try.underlying30 rfl (by kernel_rfl) ?_))
        have HPR := Lib.hid (J2.out.ws.keep goesPar HP1.out.run HT1.out)
        have HSC := Lib.hid (fun b (hb : S b ∧ b < w.heap.size) => (⟨by have := hb.2; have := J2.out.ws.size; omega, J2.out.ws.not (by have := hb.2; omega) (HT1.out b hb)⟩ : b < w6.heap.size ∧ ¬ T6 b))
        refine (wrun_any (p := run) (batch := false) J2.out.ws.at' HPR.out HSC.out HPN.out.cons HPN.out.serial HPN.out.page HPN.out.time (by have := text_le idn; unfold costR at hl; omega)).mono ?_
        rintro e9 w9 ⟨rfl, T9, hk9⟩
        have J9 := Lib.hid (J2.out.step hk9); clear hk9
        go_wp2_with fail
        go_meet
        exact ⟨T9, J9.out.as (by rw [HSF.out]; rfl)⟩
      · skip
        have k17 := I1.out.box.c 17 _ rfl
        have q2 := I1.out.box.lt
        go_wp2_with fail
        refine (Sb.texts_any HP1.out.events (texts evs) rfl).mono ?_
        rintro e5 w5 ⟨A5, m5, c5, rfl, ho, hb⟩
        have HO := Lib.hid ho.slb; clear ho
        have J1 := Lib.hid (I1.out.after hb); clear hb
        have hlv : (wval (texts evs)).length ≤ 4295000000 := by rw [lenW_val]; first | exact value_le _ | exact pairs_w _ | exact texts_w _
        have HRN := Lib.hid (fun x (e : texts evs = .error x) => texts_ne e)
        obtain ⟨rv, hrv⟩ : ∃ x, x = texts evs := ⟨_, rfl⟩
        rw [← hrv] at HO hlv HRN ⊢
        have HRV := Lib.hid hrv; clear hrv
        go_wp2_with fail
        refine (wput_any J1.out.ws.at' HO.out rv rfl (fun b e => by rw [e]; rfl) HRN.out (by show 0 + (wval rv).length ≤ _; omega)).mono ?_
        rintro e6 w6 ⟨rfl, T6, hk6⟩
        have J2 := Lib.hid ((J1.out.step hk6).as (s' := rv) (bothW_left _)); clear hk6
        clear q2 k17
        go_wp2_with fail
        go_meet
        exact ⟨T6, J2.out.as (by rw [HSF.out, HRV.out]; rfl)⟩
      · skip
        have k18 := I1.out.box.c 18 _ rfl
        have k19 := I1.out.box.c 19 _ rfl
        have q2 := I1.out.box.lt
        have htn : t.n ≤ 140737488355324 := by have := HP1.out.token.len; have e : t.n = tok.bytes.length := this; omega
        go_wp2_with fail
        refine (value_any (v := tok) HP1.out.token htn (value tok) rfl).mono ?_
        rintro e5 w5 ⟨A5, m5, c5, rfl, ho, hb⟩
        have HO := Lib.hid ho.slb; clear ho
        have J1 := Lib.hid (I1.out.after hb); clear hb
        have hlv : (wval (value tok)).length ≤ 4 + tok.bytes.length := by rw [lenW_val]; first | exact value_le _ | exact pairs_w _ | exact texts_w _
        have HRN := Lib.hid (fun x (e : value tok = .error x) => value_ne e)
        obtain ⟨rv, hrv⟩ : ∃ x, x = value tok := ⟨_, rfl⟩
        rw [← hrv] at HO hlv HRN ⊢
        have HRV := Lib.hid hrv; clear hrv
        go_wp2_with fail
        refine (wput_any J1.out.ws.at' HO.out rv rfl (fun b e => by rw [e]; rfl) HRN.out (by show 0 + (wval rv).length ≤ _; omega)).mono ?_
        rintro e6 w6 ⟨rfl, T6, hk6⟩
        have J2 := Lib.hid ((J1.out.step hk6).as (s' := rv) (bothW_left _)); clear hk6
        clear q2 k18 k19
        go_wp2_with fail
        go_meet
        exact ⟨T6, J2.out.as (by rw [HSF.out, HRV.out]; rfl)⟩
      · skip
        have q2 := I1.out.box.lt
        have hbx : Bx (fun b => b = w.heap.size) w1 w.heap.size (rqV ⟨13, opts, tx, idn, run, evs, tok, kd, all⟩ o i r1 r2 r3 ev t al) := I1.out.box
        have HBX := Lib.hid hbx; clear hbx
        go_wp2_with (first | (refine wpList_loadB HBX.out (by rfl) 33 _ (by rfl) (by rfl) _ Try.underlying33 rfl (by kernel_rfl) ?_))
        have HSC := Lib.hid (fun b (hb : S b ∧ b < w.heap.size) => (⟨by have := hb.2; omega, HT1.out b hb⟩ : b < w1.heap.size ∧ ¬ b = w.heap.size + 1))
        refine (wbatch_any I1.out.ws.at' HP1.out HSC.out hkd HPN.out (by show 0 + 2 * costA all + costR run ≤ _; omega)).mono ?_
        rintro e9 w9 ⟨rfl, T9, hk9⟩
        have J9 := Lib.hid ((I1.out.step hk9).as (bothW_left _)); clear hk9
        go_wp2_with fail
        go_meet
        exact ⟨T9, J9.out.as (by rw [HSF.out]; rfl)⟩

    case rest =>
      obtain ⟨T2, I2⟩ := hcut
      obtain ⟨w2, hwo⟩ : ∃ wo, wo = wc := ⟨_, rfl⟩
      subst hwo
      obtain rfl : sF = r := HSF.out.trans HR.out
      clear HSF HR hk
      have y1 := I2.out.ws.at'.cellE
      have hY := I2.out.ws.at'.lt _ I2.out.ws.at'.mem
      cases sF with
      | error e =>
        have hne := I2.out.ws.at'.ne0
        have hne2 : (e != 0) = true := bne_iff_ne.2 hne
        simp only [werr_error] at y1
        go_upto_region 22 with fail
        refine regt_start (by kernel_rfl) ?_
        (refine regt_take 0 (v := ?_) (by rfl) (by kernel_rfl) (by kernel_rfl) (by kernel_rfl) (by exact fun _ _ _ h => h) (by rfl) ?_ ?_; rotate_left; focus (intro w hSw; go_simp; try with_reducible rfl))
        simp only [Act.put, List.setIfInBounds_toArray, List.set_cons_zero, List.set_cons_succ]
        (refine regt_take 1 (v := ?_) (by rfl) (by kernel_rfl) (by kernel_rfl) (by kernel_rfl) (by exact fun _ _ _ h => h) (by rfl) ?_ ?_; rotate_left; focus (intro w hSw; go_simp; try with_reducible rfl))
        simp only [Act.put, List.setIfInBounds_toArray, List.set_cons_zero, List.set_cons_succ]
        (refine regt_take 2 (v := ?_) (by rfl) (by kernel_rfl) (by kernel_rfl) (by kernel_rfl) (by exact fun _ _ _ h => h) (by rfl) ?_ ?_; rotate_left; focus (intro w hSw; go_simp; try with_reducible rfl))
        simp only [Act.put, List.setIfInBounds_toArray, List.set_cons_zero, List.set_cons_succ]
        (refine regt_take 4 (v := ?_) (by rfl) (by kernel_rfl) (by kernel_rfl) (by kernel_rfl) (by exact fun _ _ _ h => h) (by rfl) ?_ ?_; rotate_left; focus (intro w hSw; go_simp; try with_reducible rfl))
        simp only [Act.put, List.setIfInBounds_toArray, List.set_cons_zero, List.set_cons_succ]
        refine regt_call 3 (by kernel_rfl) (by rfl) (fun K hK => ?_)
        go_simp
        refine hK.out _ _ (trivial) ?_
        clear hK K
        try simp only [Act.put, List.setIfInBounds_toArray, List.set_cons_zero, List.set_cons_succ]
        (refine regt_take 5 (v := ?_) (by rfl) (by kernel_rfl) (by kernel_rfl) (by kernel_rfl) (by exact fun _ _ _ h => h) (by rfl) ?_ ?_; rotate_left; focus (intro w hSw; go_simp; try with_reducible rfl))
        simp only [Act.put, List.setIfInBounds_toArray, List.set_cons_zero, List.set_cons_succ]
        refine wpAnyH_done (by kernel_rfl) ?_ _
        all_goals
          go_wp2_with fail
          go_ret2
          exact ⟨none, 0, 0, rfl, Sl.nil, ((HB1.out.trans (I2.out.ws.fr.below (N := w.heap.size) (by omega) fun b hb e => by omega)).trans (Below.refl _ w2).drew)⟩
      | ok b =>
        simp only [werr_ok] at y1
        obtain ⟨AX, nX, cX, bX, x1, x2, x3, x4, x5⟩ := I2.out.ws.at'.ex
        obtain rfl : bX = b := x4 b rfl
        have y0 := x2.c 0 _ rfl
        have HX := Lib.hid (x1.sl.mono (S' := fun b => w.heap.size ≤ b) fun b hb _ => by rcases I2.out.ws.own b hb with h | h; omega; omega)
        clear x1 x2 x3 x4 x5
        go_wp2_with fail
        go_ret2
        exact ⟨AX, nX, cX, rfl, HX.out, HB1.out.trans (I2.out.ws.fr.below (N := w.heap.size) (by omega) fun b hb e => by omega)⟩
  · have e22 : putRq ⟨op, opts, tx, idn, run, evs, tok, kd, all⟩ = .error 22 := put_not hk
    have hk1 : ((op : Int) == 1) = false := by unfold knownOp at hk; simp; omega
    have hk5 : ((op : Int) == 5) = false := by unfold knownOp at hk; simp; omega
    have hk7 : ((op : Int) == 7) = false := by unfold knownOp at hk; simp; omega
    have hk9 : ((op : Int) == 9) = false := by unfold knownOp at hk; simp; omega
    have hk10 : ((op : Int) == 10) = false := by unfold knownOp at hk; simp; omega
    have hk11 : ((op : Int) == 11) = false := by unfold knownOp at hk; simp; omega
    have hk15 : ((op : Int) == 15) = false := by unfold knownOp at hk; simp; omega
    have hk13 : ((op : Int) == 13) = false := by unfold knownOp at hk; simp; omega
    have HE := Lib.hid e22; clear e22 hk
    go_wp2_with fail
    go_ret2
    obtain rfl := HE.out.symm.trans HR.out
    exact ⟨none, 0, 0, rfl, Sl.nil, HB1.out⟩
end Go.Proofs.Sb
