/-
  The document's answer for chapter 8: its step. Printed by wip/tools/mkrf8s.py. No condition. By an AI agent.
-/
import Derived.Test.YtpfjadgcnaffgaaRf8
namespace Go.Proofs.Ytpfjadgcnaffgaa.Bank
set_option linter.unusedVariables false
set_option linter.unusedSimpArgs false
open Go Go.RowKit Go.Proofs.Ytpfjadgcnaffgaa.Base

set_option maxRecDepth 100000 in
set_option maxHeartbeats 4000000 in
theorem F_out0 (o hb : Nat) (ws : List Int) (ow : Int) (q : Nat) (fi wo de : Int) (tries : Int) (v : Value) (rec : List Int) (had steps sq nn : Int) (w0 w : World) (ho : RefAt w o ⟨ow, q, fi, wo, de⟩ tries v ⟨0, 0, had, steps, sq, nn⟩) (hr : RowW w hb ws) (hi : WInv ⟨ow, q, fi, wo, de⟩ rec tries ⟨0, 0, had, steps, sq, nn⟩)
    (hf : ∀ y ∈ ws, 0 ≤ y ∧ y ≤ 18446744073709551615) (hv : Ints w0 .u64 v rec) (hl0 : Below w0.heap.size w0 w) (ne : o ≠ hb ∧ w0.heap.size ≤ hb ∧ w0.heap.size ≤ o) (hin : ws.length ≤ q) :
    Calls Try.prog 17 #[.pointer (some ⟨o, 0, none⟩), .slice (some ⟨hb, 0, none⟩) ws.length ws.length] w fun e w' => e = .returned (.tuple #[]) ∧ RefAt w' o ⟨ow, q, fi, wo, de⟩ tries v ⟨3, 0, had, steps, sq, nn⟩ ∧ RowW w' hb (ws) ∧ Ex (fun k => k = o ∨ k = hb) w w' := by
  have B0 := Lib.hid (show Blk w o 56 _ from ho)
  have R0 := Lib.hid hr
  have X0 := Lib.hid (Ex.refl (fun k => k = o ∨ k = hb) w)
  have HI := Lib.hid hi
  have NE := Lib.hid ne
  have HV := Lib.hid hv
  have HL0 := Lib.hid hl0
  have HFT := Lib.hid hf
  unfold fCs at B0
  simp only [show (0 : Int) + 1 = 1 from rfl, show (1 : Int) + 1 = 2 from rfl, show (2 : Int) + 1 = 3 from rfl, show (3 : Int) + 1 = 4 from rfl] at B0
  have HIN := Lib.hid hin
  have hst : wrap64 (steps + 1) = steps + 1 := hi.wst
  have hne9 : o ≠ hb := ne.1
  have hne8 : hb ≠ o := fun e => ne.1 e.symm
  clear ho hr hi ne hv hl0 hf hin
  have q0 := B0.out.cell 0
  have q1 := B0.out.cell 1
  have q7 := B0.out.cell 7
  have q11 := B0.out.cell 11
  simp only [List.getElem?_toArray, List.getElem?_cons_succ, List.getElem?_cons_zero] at q0 q1 q7 q11
  have f11 := B0.out.frozen 11
  have k1 : decide ((q : Int) < 0) = false := decide_eq_false (by omega)
  have kq1 : (ws.length : Int) ≤ (q : Int) := by have := HIN.out; omega
  have k2 : decide ((q : Int) ≥ (ws.length : Int)) = true := decide_eq_true kq1
  have kqn : ws.length ≤ q := HIN.out
  go_enter Try.func17, Try.ntmps17
  go_wp2_with fail
  clear q0 q1 q7 q11 f11
  have ee := ((Ex.refl (fun k => k = o) w).setCell (q := ⟨o, 11, none⟩) (.inl rfl) (.int .i64 3))
  have bb := (B0.out.set_ 11 (.int .i64 3))
  simp only [List.setIfInBounds_toArray, List.set_cons_succ, List.set_cons_zero] at bb
  have Bwz := Lib.hid (bb)
  have Rwz := Lib.hid (R0.out.ex ee (by have := NE.out; omega))
  have Xwz := Lib.hid (X0.out.trans (ee.mono (fun k hk => .inl hk)))
  clear ee bb B0 R0 X0
  first | (refine bodyPost_ret (results_none rfl _ _ _) rfl ?_) | go_end0
  exact ⟨rfl, Bwz.out, Rwz.out, Xwz.out⟩
set_option maxRecDepth 100000 in
set_option maxHeartbeats 4000000 in
theorem F_out1 (o hb : Nat) (ws : List Int) (ow : Int) (q : Nat) (fi wo de : Int) (tries : Int) (v : Value) (rec : List Int) (had steps sq nn : Int) (w0 w : World) (ho : RefAt w o ⟨ow, q, fi, wo, de⟩ tries v ⟨0, 1, had, steps, sq, nn⟩) (hr : RowW w hb ws) (hi : WInv ⟨ow, q, fi, wo, de⟩ rec tries ⟨0, 1, had, steps, sq, nn⟩)
    (hf : ∀ y ∈ ws, 0 ≤ y ∧ y ≤ 18446744073709551615) (hv : Ints w0 .u64 v rec) (hl0 : Below w0.heap.size w0 w) (ne : o ≠ hb ∧ w0.heap.size ≤ hb ∧ w0.heap.size ≤ o) (hin : ws.length ≤ q) :
    Calls Try.prog 17 #[.pointer (some ⟨o, 0, none⟩), .slice (some ⟨hb, 0, none⟩) ws.length ws.length] w fun e w' => e = .returned (.tuple #[]) ∧ RefAt w' o ⟨ow, q, fi, wo, de⟩ tries v ⟨3, 1, had, steps, sq, nn⟩ ∧ RowW w' hb (ws) ∧ Ex (fun k => k = o ∨ k = hb) w w' := by
  have B0 := Lib.hid (show Blk w o 56 _ from ho)
  have R0 := Lib.hid hr
  have X0 := Lib.hid (Ex.refl (fun k => k = o ∨ k = hb) w)
  have HI := Lib.hid hi
  have NE := Lib.hid ne
  have HV := Lib.hid hv
  have HL0 := Lib.hid hl0
  have HFT := Lib.hid hf
  unfold fCs at B0
  simp only [show (0 : Int) + 1 = 1 from rfl, show (1 : Int) + 1 = 2 from rfl, show (2 : Int) + 1 = 3 from rfl, show (3 : Int) + 1 = 4 from rfl] at B0
  have HIN := Lib.hid hin
  have hst : wrap64 (steps + 1) = steps + 1 := hi.wst
  have hne9 : o ≠ hb := ne.1
  have hne8 : hb ≠ o := fun e => ne.1 e.symm
  clear ho hr hi ne hv hl0 hf hin
  have q0 := B0.out.cell 0
  have q1 := B0.out.cell 1
  have q7 := B0.out.cell 7
  have q11 := B0.out.cell 11
  simp only [List.getElem?_toArray, List.getElem?_cons_succ, List.getElem?_cons_zero] at q0 q1 q7 q11
  have f11 := B0.out.frozen 11
  have k1 : decide ((q : Int) < 0) = false := decide_eq_false (by omega)
  have kq1 : (ws.length : Int) ≤ (q : Int) := by have := HIN.out; omega
  have k2 : decide ((q : Int) ≥ (ws.length : Int)) = true := decide_eq_true kq1
  have kqn : ws.length ≤ q := HIN.out
  go_enter Try.func17, Try.ntmps17
  go_wp2_with fail
  clear q0 q1 q7 q11 f11
  have ee := ((Ex.refl (fun k => k = o) w).setCell (q := ⟨o, 11, none⟩) (.inl rfl) (.int .i64 3))
  have bb := (B0.out.set_ 11 (.int .i64 3))
  simp only [List.setIfInBounds_toArray, List.set_cons_succ, List.set_cons_zero] at bb
  have Bwz := Lib.hid (bb)
  have Rwz := Lib.hid (R0.out.ex ee (by have := NE.out; omega))
  have Xwz := Lib.hid (X0.out.trans (ee.mono (fun k hk => .inl hk)))
  clear ee bb B0 R0 X0
  first | (refine bodyPost_ret (results_none rfl _ _ _) rfl ?_) | go_end0
  exact ⟨rfl, Bwz.out, Rwz.out, Xwz.out⟩
set_option maxRecDepth 100000 in
set_option maxHeartbeats 4000000 in
theorem F_out3 (o hb : Nat) (ws : List Int) (ow : Int) (q : Nat) (fi wo de : Int) (tries : Int) (v : Value) (rec : List Int) (had steps sq nn : Int) (w0 w : World) (ho : RefAt w o ⟨ow, q, fi, wo, de⟩ tries v ⟨0, 3, had, steps, sq, nn⟩) (hr : RowW w hb ws) (hi : WInv ⟨ow, q, fi, wo, de⟩ rec tries ⟨0, 3, had, steps, sq, nn⟩)
    (hf : ∀ y ∈ ws, 0 ≤ y ∧ y ≤ 18446744073709551615) (hv : Ints w0 .u64 v rec) (hl0 : Below w0.heap.size w0 w) (ne : o ≠ hb ∧ w0.heap.size ≤ hb ∧ w0.heap.size ≤ o) (hin : ws.length ≤ q) :
    Calls Try.prog 17 #[.pointer (some ⟨o, 0, none⟩), .slice (some ⟨hb, 0, none⟩) ws.length ws.length] w fun e w' => e = .returned (.tuple #[]) ∧ RefAt w' o ⟨ow, q, fi, wo, de⟩ tries v ⟨3, 3, had, steps, sq, nn⟩ ∧ RowW w' hb (ws) ∧ Ex (fun k => k = o ∨ k = hb) w w' := by
  have B0 := Lib.hid (show Blk w o 56 _ from ho)
  have R0 := Lib.hid hr
  have X0 := Lib.hid (Ex.refl (fun k => k = o ∨ k = hb) w)
  have HI := Lib.hid hi
  have NE := Lib.hid ne
  have HV := Lib.hid hv
  have HL0 := Lib.hid hl0
  have HFT := Lib.hid hf
  unfold fCs at B0
  simp only [show (0 : Int) + 1 = 1 from rfl, show (1 : Int) + 1 = 2 from rfl, show (2 : Int) + 1 = 3 from rfl, show (3 : Int) + 1 = 4 from rfl] at B0
  have HIN := Lib.hid hin
  have hst : wrap64 (steps + 1) = steps + 1 := hi.wst
  have hne9 : o ≠ hb := ne.1
  have hne8 : hb ≠ o := fun e => ne.1 e.symm
  clear ho hr hi ne hv hl0 hf hin
  have q0 := B0.out.cell 0
  have q1 := B0.out.cell 1
  have q7 := B0.out.cell 7
  have q11 := B0.out.cell 11
  simp only [List.getElem?_toArray, List.getElem?_cons_succ, List.getElem?_cons_zero] at q0 q1 q7 q11
  have f11 := B0.out.frozen 11
  have k1 : decide ((q : Int) < 0) = false := decide_eq_false (by omega)
  have kq1 : (ws.length : Int) ≤ (q : Int) := by have := HIN.out; omega
  have k2 : decide ((q : Int) ≥ (ws.length : Int)) = true := decide_eq_true kq1
  have kqn : ws.length ≤ q := HIN.out
  go_enter Try.func17, Try.ntmps17
  go_wp2_with fail
  clear q0 q1 q7 q11 f11
  have ee := ((Ex.refl (fun k => k = o) w).setCell (q := ⟨o, 11, none⟩) (.inl rfl) (.int .i64 3))
  have bb := (B0.out.set_ 11 (.int .i64 3))
  simp only [List.setIfInBounds_toArray, List.set_cons_succ, List.set_cons_zero] at bb
  have Bwz := Lib.hid (bb)
  have Rwz := Lib.hid (R0.out.ex ee (by have := NE.out; omega))
  have Xwz := Lib.hid (X0.out.trans (ee.mono (fun k hk => .inl hk)))
  clear ee bb B0 R0 X0
  first | (refine bodyPost_ret (results_none rfl _ _ _) rfl ?_) | go_end0
  exact ⟨rfl, Bwz.out, Rwz.out, Xwz.out⟩
set_option maxRecDepth 100000 in
set_option maxHeartbeats 4000000 in
theorem F_look_even (o hb : Nat) (ws : List Int) (ow : Int) (q : Nat) (fi wo de : Int) (tries : Int) (v : Value) (rec : List Int) (had steps sq nn : Int) (w0 w : World) (ho : RefAt w o ⟨ow, q, fi, wo, de⟩ tries v ⟨0, 0, had, steps, sq, nn⟩) (hr : RowW w hb ws) (hi : WInv ⟨ow, q, fi, wo, de⟩ rec tries ⟨0, 0, had, steps, sq, nn⟩)
    (hf : ∀ y ∈ ws, 0 ≤ y ∧ y ≤ 18446744073709551615) (hv : Ints w0 .u64 v rec) (hl0 : Below w0.heap.size w0 w) (ne : o ≠ hb ∧ w0.heap.size ≤ hb ∧ w0.heap.size ≤ o) (hin : q < ws.length) (hv2 : nth ws q % 2 = 0) :
    Calls Try.prog 17 #[.pointer (some ⟨o, 0, none⟩), .slice (some ⟨hb, 0, none⟩) ws.length ws.length] w fun e w' => e = .returned (.tuple #[]) ∧ RefAt w' o ⟨ow, q, fi, wo, de⟩ tries v ⟨0, 1, had, steps + 1, nth ws q, nn⟩ ∧ RowW w' hb (ws) ∧ Ex (fun k => k = o ∨ k = hb) w w' := by
  have B0 := Lib.hid (show Blk w o 56 _ from ho)
  have R0 := Lib.hid hr
  have X0 := Lib.hid (Ex.refl (fun k => k = o ∨ k = hb) w)
  have HI := Lib.hid hi
  have NE := Lib.hid ne
  have HV := Lib.hid hv
  have HL0 := Lib.hid hl0
  have HFT := Lib.hid hf
  unfold fCs at B0
  simp only [show (0 : Int) + 1 = 1 from rfl, show (1 : Int) + 1 = 2 from rfl, show (2 : Int) + 1 = 3 from rfl, show (3 : Int) + 1 = 4 from rfl] at B0
  have HIN := Lib.hid hin
  have HV2 := Lib.hid hv2
  have hst : wrap64 (steps + 1) = steps + 1 := hi.wst
  have hne9 : o ≠ hb := ne.1
  have hne8 : hb ≠ o := fun e => ne.1 e.symm
  clear ho hr hi ne hv hl0 hf hin hv2
  have q0 := B0.out.cell 0
  have q1 := B0.out.cell 1
  have q7 := B0.out.cell 7
  have q9 := B0.out.cell 9
  have q11 := B0.out.cell 11
  have q12 := B0.out.cell 12
  simp only [List.getElem?_toArray, List.getElem?_cons_succ, List.getElem?_cons_zero] at q0 q1 q7 q9 q11 q12
  have f7 := B0.out.frozen 7
  have f9 := B0.out.frozen 9
  have f12 := B0.out.frozen 12
  have k1 : decide ((q : Int) < 0) = false := decide_eq_false (by omega)
  have kq0 : (0 : Int) ≤ (q : Int) := by omega
  have kq1 : (q : Int) < (ws.length : Int) := by have := HIN.out; omega
  have k2 : decide ((q : Int) ≥ (ws.length : Int)) = false := decide_eq_false (by omega)
  have kqn : q < ws.length := HIN.out
  have qw := R0.out.word HIN.out
  have HRG := Lib.hid (HFT.out (nth ws q) (nth_mem HIN.out))
  generalize nth ws q = z at *
  have ko : (z.tmod 2 == 1) = false := beq_eq_false_iff_ne.2 (by rw [Int.tmod_eq_emod_of_nonneg HRG.out.1]; have := HV2.out; omega)
  go_enter Try.func17, Try.ntmps17
  go_wp2_with fail
  clear q0 q1 q7 q9 q11 q12 f7 f9 f12 qw
  have ee := ((((Ex.refl (fun k => k = o) w).setCell (q := ⟨o, 12, none⟩) (.inl rfl) (.int .i64 (steps + 1))).setCell (q := ⟨o, 9, none⟩) (.inl rfl) (.int .u64 z)).setCell (q := ⟨o, 7, none⟩) (.inl rfl) (.int .i64 2))
  have bb := (((B0.out.set_ 12 (.int .i64 (steps + 1))).set_ 9 (.int .u64 z)).set_ 7 (.int .i64 2))
  simp only [List.setIfInBounds_toArray, List.set_cons_succ, List.set_cons_zero] at bb
  have Bwz := Lib.hid (bb)
  have Rwz := Lib.hid (R0.out.ex ee (by have := NE.out; omega))
  have Xwz := Lib.hid (X0.out.trans (ee.mono (fun k hk => .inl hk)))
  clear ee bb B0 R0 X0
  first | (refine bodyPost_ret (results_none rfl _ _ _) rfl ?_) | go_end0
  exact ⟨rfl, Bwz.out, Rwz.out, Xwz.out⟩
set_option maxRecDepth 100000 in
set_option maxHeartbeats 4000000 in
theorem F_look_odd (o hb : Nat) (ws : List Int) (ow : Int) (q : Nat) (fi wo de : Int) (tries : Int) (v : Value) (rec : List Int) (had steps sq nn : Int) (w0 w : World) (ho : RefAt w o ⟨ow, q, fi, wo, de⟩ tries v ⟨0, 0, had, steps, sq, nn⟩) (hr : RowW w hb ws) (hi : WInv ⟨ow, q, fi, wo, de⟩ rec tries ⟨0, 0, had, steps, sq, nn⟩)
    (hf : ∀ y ∈ ws, 0 ≤ y ∧ y ≤ 18446744073709551615) (hv : Ints w0 .u64 v rec) (hl0 : Below w0.heap.size w0 w) (ne : o ≠ hb ∧ w0.heap.size ≤ hb ∧ w0.heap.size ≤ o) (hin : q < ws.length) (hv2 : nth ws q % 2 = 1) :
    Calls Try.prog 17 #[.pointer (some ⟨o, 0, none⟩), .slice (some ⟨hb, 0, none⟩) ws.length ws.length] w fun e w' => e = .returned (.tuple #[]) ∧ RefAt w' o ⟨ow, q, fi, wo, de⟩ tries v (WS.again tries ⟨0, 0, had, steps, nth ws q, nn⟩) ∧ RowW w' hb (ws) ∧ Ex (fun k => k = o ∨ k = hb) w w' := by
  have B0 := Lib.hid (show Blk w o 56 _ from ho)
  have R0 := Lib.hid hr
  have X0 := Lib.hid (Ex.refl (fun k => k = o ∨ k = hb) w)
  have HI := Lib.hid hi
  have NE := Lib.hid ne
  have HV := Lib.hid hv
  have HL0 := Lib.hid hl0
  have HFT := Lib.hid hf
  unfold fCs at B0
  simp only [show (0 : Int) + 1 = 1 from rfl, show (1 : Int) + 1 = 2 from rfl, show (2 : Int) + 1 = 3 from rfl, show (3 : Int) + 1 = 4 from rfl] at B0
  have HIN := Lib.hid hin
  have HV2 := Lib.hid hv2
  have hst : wrap64 (steps + 1) = steps + 1 := hi.wst
  have hne9 : o ≠ hb := ne.1
  have hne8 : hb ≠ o := fun e => ne.1 e.symm
  clear ho hr hi ne hv hl0 hf hin hv2
  have q0 := B0.out.cell 0
  have q1 := B0.out.cell 1
  have q7 := B0.out.cell 7
  have q9 := B0.out.cell 9
  have q11 := B0.out.cell 11
  have q12 := B0.out.cell 12
  simp only [List.getElem?_toArray, List.getElem?_cons_succ, List.getElem?_cons_zero] at q0 q1 q7 q9 q11 q12
  have f7 := B0.out.frozen 7
  have f9 := B0.out.frozen 9
  have f12 := B0.out.frozen 12
  have k1 : decide ((q : Int) < 0) = false := decide_eq_false (by omega)
  have kq0 : (0 : Int) ≤ (q : Int) := by omega
  have kq1 : (q : Int) < (ws.length : Int) := by have := HIN.out; omega
  have k2 : decide ((q : Int) ≥ (ws.length : Int)) = false := decide_eq_false (by omega)
  have kqn : q < ws.length := HIN.out
  have qw := R0.out.word HIN.out
  have HRG := Lib.hid (HFT.out (nth ws q) (nth_mem HIN.out))
  generalize nth ws q = z at *
  have ko : (z.tmod 2 == 1) = true := beq_iff_eq.2 (by rw [Int.tmod_eq_emod_of_nonneg HRG.out.1]; have := HV2.out; omega)
  go_enter Try.func17, Try.ntmps17
  go_wp2_with fail
  clear q0 q1 q7 q9 q11 q12 f7 f9 f12 qw
  have ee := ((((Ex.refl (fun k => k = o) w).setCell (q := ⟨o, 12, none⟩) (.inl rfl) (.int .i64 (steps + 1))).setCell (q := ⟨o, 9, none⟩) (.inl rfl) (.int .u64 z)).setCell (q := ⟨o, 7, none⟩) (.inl rfl) (.int .i64 2))
  have bb := (((B0.out.set_ 12 (.int .i64 (steps + 1))).set_ 9 (.int .u64 z)).set_ 7 (.int .i64 2))
  simp only [List.setIfInBounds_toArray, List.set_cons_succ, List.set_cons_zero] at bb
  have Bw2 := Lib.hid (bb)
  have Rw2 := Lib.hid (R0.out.ex ee (by have := NE.out; omega))
  have Xw2 := Lib.hid (X0.out.trans (ee.mono (fun k hk => .inl hk)))
  clear ee bb B0 R0 X0
  generalize (((w.setCell ⟨o, 12, none⟩ (.int .i64 (steps + 1))).setCell ⟨o, 9, none⟩ (.int .u64 z)).setCell ⟨o, 7, none⟩ (.int .i64 2)) = w2 at *
  refine (fagain_any o ⟨ow, q, fi, wo, de⟩ tries v ⟨0, 1, had, steps + 1, z, nn⟩ w2 Bw2.out ⟨HI.out.had.1, HI.out.had.2 rfl, HI.out.tr.2⟩).mono ?_; rintro e w3 ⟨rfl, bb, ee⟩
  have Bw3 := Lib.hid (bb)
  have Rw3 := Lib.hid (Rw2.out.ex ee (by have := NE.out; omega))
  have Xw3 := Lib.hid (Xw2.out.trans (ee.mono (fun k hk => .inl hk)))
  clear bb ee Bw2 Rw2 Xw2
  go_wp2_with fail
  first | (refine bodyPost_ret (results_none rfl _ _ _) rfl ?_) | go_end0
  exact ⟨rfl, Bw3.out, Rw3.out, Xw3.out⟩
set_option maxRecDepth 100000 in
set_option maxHeartbeats 4000000 in
theorem F_take_hit (o hb : Nat) (ws : List Int) (ow : Int) (q : Nat) (fi wo de : Int) (tries : Int) (v : Value) (rec : List Int) (had steps sq nn : Int) (w0 w : World) (ho : RefAt w o ⟨ow, q, fi, wo, de⟩ tries v ⟨0, 1, had, steps, sq, nn⟩) (hr : RowW w hb ws) (hi : WInv ⟨ow, q, fi, wo, de⟩ rec tries ⟨0, 1, had, steps, sq, nn⟩)
    (hf : ∀ y ∈ ws, 0 ≤ y ∧ y ≤ 18446744073709551615) (hv : Ints w0 .u64 v rec) (hl0 : Below w0.heap.size w0 w) (ne : o ≠ hb ∧ w0.heap.size ≤ hb ∧ w0.heap.size ≤ o) (hin : q < ws.length) (hv2 : nth ws q = sq) :
    Calls Try.prog 17 #[.pointer (some ⟨o, 0, none⟩), .slice (some ⟨hb, 0, none⟩) ws.length ws.length] w fun e w' => e = .returned (.tuple #[]) ∧ RefAt w' o ⟨ow, q, fi, wo, de⟩ tries v ⟨0, 2, had, steps + 1, sq, nn⟩ ∧ RowW w' hb (ws.set q (IntKind.u64.wrap (sq + 1))) ∧ Ex (fun k => k = o ∨ k = hb) w w' := by
  have B0 := Lib.hid (show Blk w o 56 _ from ho)
  have R0 := Lib.hid hr
  have X0 := Lib.hid (Ex.refl (fun k => k = o ∨ k = hb) w)
  have HI := Lib.hid hi
  have NE := Lib.hid ne
  have HV := Lib.hid hv
  have HL0 := Lib.hid hl0
  have HFT := Lib.hid hf
  unfold fCs at B0
  simp only [show (0 : Int) + 1 = 1 from rfl, show (1 : Int) + 1 = 2 from rfl, show (2 : Int) + 1 = 3 from rfl, show (3 : Int) + 1 = 4 from rfl] at B0
  have HIN := Lib.hid hin
  have HV2 := Lib.hid hv2
  have hst : wrap64 (steps + 1) = steps + 1 := hi.wst
  have hne9 : o ≠ hb := ne.1
  have hne8 : hb ≠ o := fun e => ne.1 e.symm
  clear ho hr hi ne hv hl0 hf hin hv2
  have q0 := B0.out.cell 0
  have q1 := B0.out.cell 1
  have q7 := B0.out.cell 7
  have q11 := B0.out.cell 11
  have q12 := B0.out.cell 12
  simp only [List.getElem?_toArray, List.getElem?_cons_succ, List.getElem?_cons_zero] at q0 q1 q7 q11 q12
  have f12 := B0.out.frozen 12
  have k1 : decide ((q : Int) < 0) = false := decide_eq_false (by omega)
  have kq0 : (0 : Int) ≤ (q : Int) := by omega
  have kq1 : (q : Int) < (ws.length : Int) := by have := HIN.out; omega
  have k2 : decide ((q : Int) ≥ (ws.length : Int)) = false := decide_eq_false (by omega)
  have kqn : q < ws.length := HIN.out
  have hn0 : nn = 0 := HI.out.zero rfl (by simp)
  go_enter Try.func17, Try.ntmps17
  go_upto_region 14 with fail
  clear q0 q1 q7 q11 q12 f12
  have ee := ((Ex.refl (fun k => k = o) w).setCell (q := ⟨o, 12, none⟩) (.inl rfl) (.int .i64 (steps + 1)))
  have bb := (B0.out.set_ 12 (.int .i64 (steps + 1)))
  simp only [List.setIfInBounds_toArray, List.set_cons_succ, List.set_cons_zero] at bb
  have Bw1 := Lib.hid (bb)
  have Rw1 := Lib.hid (R0.out.ex ee (by have := NE.out; omega))
  have Xw1 := Lib.hid (X0.out.trans (ee.mono (fun k hk => .inl hk)))
  clear ee bb B0 R0 X0
  generalize (w.setCell ⟨o, 12, none⟩ (.int .i64 (steps + 1))) = w1 at *
  have hne : Nonempty (Held (fun W => W = w1.drew)) := ⟨⟨_, rfl⟩⟩
  have p0 : ∀ y : Held (fun W => W = w1.drew), y.w.cell? ⟨o, 0, none⟩ = some (.int .i64 ow) := fun y => by rw [y.ok]; exact Bw1.out.cell 0
  have p9 : ∀ y : Held (fun W => W = w1.drew), y.w.cell? ⟨o, 9, none⟩ = some (.int .u64 sq) := fun y => by rw [y.ok]; exact Bw1.out.cell 9
  have pw : ∀ y : Held (fun W => W = w1.drew), y.w.cell? ⟨hb, q, none⟩ = some (.int .u64 (nth ws q)) := fun y => by rw [y.ok]; exact Rw1.out.word HIN.out
  have kz : (nth ws q != sq) = false := by rw [HV2.out]; simp
  refine drawn_bars (S := fun _ => True) [] [0, 1, 2, 3, 4, 5, 6, 7, 8] (by kernel_rfl) (by kernel_rfl) (by kernel_rfl) rfl trivial ?_
  refine Phased.end_ ?_
  simp only [pick, List.map_cons, List.map_nil, List.getElem?_cons_zero, List.getElem?_cons_succ, Option.getD_some]
  repeat (go_big_quiet_step (fail))
  refine wpQuiet_nil ?_
  clear hne p0 p9 pw
  have Bw2 := Lib.hid (show Blk w1.drew o 56 _ from Bw1.out)
  have Rw2 := Lib.hid (show RowW w1.drew hb _ from Rw1.out)
  have Xw2 := Lib.hid (Xw1.out.trans (Ex.refl _ w1).drew)
  clear Bw1 Rw1 Xw1
  generalize w1.drew = w2 at *
  have qw := Rw2.out.word HIN.out
  have fw := Blk.frozen Rw2.out q
  have q0 := Bw2.out.cell 0
  have q7 := Bw2.out.cell 7
  have q9 := Bw2.out.cell 9
  have q10 := Bw2.out.cell 10
  simp only [List.getElem?_toArray, List.getElem?_cons_succ, List.getElem?_cons_zero] at q0 q7 q9 q10
  have f7 := Bw2.out.frozen 7
  have f10 := Bw2.out.frozen 10
  go_wp2_with fail
  clear qw fw q0 q7 q9 q10 f7 f10
  have ee : Ex (fun k => k = hb) w2 (w2.setCell ⟨hb, q, none⟩ (.int .u64 (IntKind.u64.wrap (sq + 1)))) := ((Ex.refl (fun k => k = hb) w2).setCell (q := ⟨hb, q, none⟩) (.inl rfl) (.int .u64 (IntKind.u64.wrap (sq + 1))))
  have bb : RowW (w2.setCell ⟨hb, q, none⟩ (.int .u64 (IntKind.u64.wrap (sq + 1)))) hb (ws.set q (IntKind.u64.wrap (sq + 1))) := Rw2.out.stored q (IntKind.u64.wrap (sq + 1))
  have Bw3 := Lib.hid (Bw2.out.ex ee (by have := NE.out; omega))
  have Rw3 := Lib.hid (bb)
  have Xw3 := Lib.hid (Xw2.out.trans (ee.mono (fun k hk => .inr hk)))
  have EE := Lib.hid ee
  clear ee bb Bw2 Rw2 Xw2
  generalize (w2.setCell ⟨hb, q, none⟩ (.int .u64 (IntKind.u64.wrap (sq + 1)))) = w3 at *
  clear EE
  have ee := (((Ex.refl (fun k => k = o) w3).setCell (q := ⟨o, 7, none⟩) (.inl rfl) (.int .i64 3)).setCell (q := ⟨o, 10, none⟩) (.inl rfl) (.int .i64 0))
  have bb := ((Bw3.out.set_ 7 (.int .i64 3)).set_ 10 (.int .i64 0))
  simp only [List.setIfInBounds_toArray, List.set_cons_succ, List.set_cons_zero] at bb
  have Bwz := Lib.hid (bb)
  have Rwz := Lib.hid (Rw3.out.ex ee (by have := NE.out; omega))
  have Xwz := Lib.hid (Xw3.out.trans (ee.mono (fun k hk => .inl hk)))
  clear ee bb Bw3 Rw3 Xw3
  subst hn0
  first | (refine bodyPost_ret (results_none rfl _ _ _) rfl ?_) | go_end0
  exact ⟨rfl, Bwz.out, Rwz.out, Xwz.out⟩
set_option maxRecDepth 100000 in
set_option maxHeartbeats 4000000 in
theorem F_take_miss (o hb : Nat) (ws : List Int) (ow : Int) (q : Nat) (fi wo de : Int) (tries : Int) (v : Value) (rec : List Int) (had steps sq nn : Int) (w0 w : World) (ho : RefAt w o ⟨ow, q, fi, wo, de⟩ tries v ⟨0, 1, had, steps, sq, nn⟩) (hr : RowW w hb ws) (hi : WInv ⟨ow, q, fi, wo, de⟩ rec tries ⟨0, 1, had, steps, sq, nn⟩)
    (hf : ∀ y ∈ ws, 0 ≤ y ∧ y ≤ 18446744073709551615) (hv : Ints w0 .u64 v rec) (hl0 : Below w0.heap.size w0 w) (ne : o ≠ hb ∧ w0.heap.size ≤ hb ∧ w0.heap.size ≤ o) (hin : q < ws.length) (hv2 : ¬ nth ws q = sq) :
    Calls Try.prog 17 #[.pointer (some ⟨o, 0, none⟩), .slice (some ⟨hb, 0, none⟩) ws.length ws.length] w fun e w' => e = .returned (.tuple #[]) ∧ RefAt w' o ⟨ow, q, fi, wo, de⟩ tries v (WS.again tries ⟨0, 1, had, steps, sq, nn⟩) ∧ RowW w' hb (ws) ∧ Ex (fun k => k = o ∨ k = hb) w w' := by
  have B0 := Lib.hid (show Blk w o 56 _ from ho)
  have R0 := Lib.hid hr
  have X0 := Lib.hid (Ex.refl (fun k => k = o ∨ k = hb) w)
  have HI := Lib.hid hi
  have NE := Lib.hid ne
  have HV := Lib.hid hv
  have HL0 := Lib.hid hl0
  have HFT := Lib.hid hf
  unfold fCs at B0
  simp only [show (0 : Int) + 1 = 1 from rfl, show (1 : Int) + 1 = 2 from rfl, show (2 : Int) + 1 = 3 from rfl, show (3 : Int) + 1 = 4 from rfl] at B0
  have HIN := Lib.hid hin
  have HV2 := Lib.hid hv2
  have hst : wrap64 (steps + 1) = steps + 1 := hi.wst
  have hne9 : o ≠ hb := ne.1
  have hne8 : hb ≠ o := fun e => ne.1 e.symm
  clear ho hr hi ne hv hl0 hf hin hv2
  have q0 := B0.out.cell 0
  have q1 := B0.out.cell 1
  have q7 := B0.out.cell 7
  have q11 := B0.out.cell 11
  have q12 := B0.out.cell 12
  simp only [List.getElem?_toArray, List.getElem?_cons_succ, List.getElem?_cons_zero] at q0 q1 q7 q11 q12
  have f12 := B0.out.frozen 12
  have k1 : decide ((q : Int) < 0) = false := decide_eq_false (by omega)
  have kq0 : (0 : Int) ≤ (q : Int) := by omega
  have kq1 : (q : Int) < (ws.length : Int) := by have := HIN.out; omega
  have k2 : decide ((q : Int) ≥ (ws.length : Int)) = false := decide_eq_false (by omega)
  have kqn : q < ws.length := HIN.out
  have hn0 : nn = 0 := HI.out.zero rfl (by simp)
  go_enter Try.func17, Try.ntmps17
  go_upto_region 14 with fail
  clear q0 q1 q7 q11 q12 f12
  have ee := ((Ex.refl (fun k => k = o) w).setCell (q := ⟨o, 12, none⟩) (.inl rfl) (.int .i64 (steps + 1)))
  have bb := (B0.out.set_ 12 (.int .i64 (steps + 1)))
  simp only [List.setIfInBounds_toArray, List.set_cons_succ, List.set_cons_zero] at bb
  have Bw1 := Lib.hid (bb)
  have Rw1 := Lib.hid (R0.out.ex ee (by have := NE.out; omega))
  have Xw1 := Lib.hid (X0.out.trans (ee.mono (fun k hk => .inl hk)))
  clear ee bb B0 R0 X0
  generalize (w.setCell ⟨o, 12, none⟩ (.int .i64 (steps + 1))) = w1 at *
  have hne : Nonempty (Held (fun W => W = w1.drew)) := ⟨⟨_, rfl⟩⟩
  have p0 : ∀ y : Held (fun W => W = w1.drew), y.w.cell? ⟨o, 0, none⟩ = some (.int .i64 ow) := fun y => by rw [y.ok]; exact Bw1.out.cell 0
  have p9 : ∀ y : Held (fun W => W = w1.drew), y.w.cell? ⟨o, 9, none⟩ = some (.int .u64 sq) := fun y => by rw [y.ok]; exact Bw1.out.cell 9
  have pw : ∀ y : Held (fun W => W = w1.drew), y.w.cell? ⟨hb, q, none⟩ = some (.int .u64 (nth ws q)) := fun y => by rw [y.ok]; exact Rw1.out.word HIN.out
  have kz : (nth ws q != sq) = true := by simpa using HV2.out
  refine drawn_bars (S := fun _ => True) [] [0, 1, 2, 3, 4, 5, 6, 7, 8] (by kernel_rfl) (by kernel_rfl) (by kernel_rfl) rfl trivial ?_
  refine Phased.end_ ?_
  simp only [pick, List.map_cons, List.map_nil, List.getElem?_cons_zero, List.getElem?_cons_succ, Option.getD_some]
  repeat (go_big_quiet_step (fail))
  refine wpQuiet_nil ?_
  clear hne p0 p9 pw
  have Bw2 := Lib.hid (show Blk w1.drew o 56 _ from Bw1.out)
  have Rw2 := Lib.hid (show RowW w1.drew hb _ from Rw1.out)
  have Xw2 := Lib.hid (Xw1.out.trans (Ex.refl _ w1).drew)
  clear Bw1 Rw1 Xw1
  generalize w1.drew = w2 at *
  go_wp2_with fail
  refine (fagain_any o ⟨ow, q, fi, wo, de⟩ tries v ⟨0, 1, had, steps + 1, sq, nn⟩ w2 Bw2.out ⟨HI.out.had.1, HI.out.had.2 rfl, HI.out.tr.2⟩).mono ?_; rintro e w3 ⟨rfl, bb, ee⟩
  have Bw3 := Lib.hid (bb)
  have Rw3 := Lib.hid (Rw2.out.ex ee (by have := NE.out; omega))
  have Xw3 := Lib.hid (Xw2.out.trans (ee.mono (fun k hk => .inl hk)))
  clear bb ee Bw2 Rw2 Xw2
  go_wp2_with fail
  first | (refine bodyPost_ret (results_none rfl _ _ _) rfl ?_) | go_end0
  exact ⟨rfl, Bw3.out, Rw3.out, Xw3.out⟩
set_option maxRecDepth 100000 in
set_option maxHeartbeats 4000000 in
theorem F_give (o hb : Nat) (ws : List Int) (ow : Int) (q : Nat) (fi wo de : Int) (tries : Int) (v : Value) (rec : List Int) (had steps sq nn : Int) (w0 w : World) (ho : RefAt w o ⟨ow, q, fi, wo, de⟩ tries v ⟨0, 3, had, steps, sq, nn⟩) (hr : RowW w hb ws) (hi : WInv ⟨ow, q, fi, wo, de⟩ rec tries ⟨0, 3, had, steps, sq, nn⟩)
    (hf : ∀ y ∈ ws, 0 ≤ y ∧ y ≤ 18446744073709551615) (hv : Ints w0 .u64 v rec) (hl0 : Below w0.heap.size w0 w) (ne : o ≠ hb ∧ w0.heap.size ≤ hb ∧ w0.heap.size ≤ o) (hin : q < ws.length) :
    Calls Try.prog 17 #[.pointer (some ⟨o, 0, none⟩), .slice (some ⟨hb, 0, none⟩) ws.length ws.length] w fun e w' => e = .returned (.tuple #[]) ∧ RefAt w' o ⟨ow, q, fi, wo, de⟩ tries v ⟨1, 3, had, steps + 1, sq, nn⟩ ∧ RowW w' hb (ws.set q (IntKind.u64.wrap (sq + 2))) ∧ Ex (fun k => k = o ∨ k = hb) w w' := by
  have B0 := Lib.hid (show Blk w o 56 _ from ho)
  have R0 := Lib.hid hr
  have X0 := Lib.hid (Ex.refl (fun k => k = o ∨ k = hb) w)
  have HI := Lib.hid hi
  have NE := Lib.hid ne
  have HV := Lib.hid hv
  have HL0 := Lib.hid hl0
  have HFT := Lib.hid hf
  unfold fCs at B0
  simp only [show (0 : Int) + 1 = 1 from rfl, show (1 : Int) + 1 = 2 from rfl, show (2 : Int) + 1 = 3 from rfl, show (3 : Int) + 1 = 4 from rfl] at B0
  have HIN := Lib.hid hin
  have hst : wrap64 (steps + 1) = steps + 1 := hi.wst
  have hne9 : o ≠ hb := ne.1
  have hne8 : hb ≠ o := fun e => ne.1 e.symm
  clear ho hr hi ne hv hl0 hf hin
  have q0 := B0.out.cell 0
  have q1 := B0.out.cell 1
  have q7 := B0.out.cell 7
  have q9 := B0.out.cell 9
  have q11 := B0.out.cell 11
  have q12 := B0.out.cell 12
  simp only [List.getElem?_toArray, List.getElem?_cons_succ, List.getElem?_cons_zero] at q0 q1 q7 q9 q11 q12
  have f11 := B0.out.frozen 11
  have f12 := B0.out.frozen 12
  have k1 : decide ((q : Int) < 0) = false := decide_eq_false (by omega)
  have kq0 : (0 : Int) ≤ (q : Int) := by omega
  have kq1 : (q : Int) < (ws.length : Int) := by have := HIN.out; omega
  have k2 : decide ((q : Int) ≥ (ws.length : Int)) = false := decide_eq_false (by omega)
  have kqn : q < ws.length := HIN.out
  have qw := R0.out.word HIN.out
  have fw := Blk.frozen R0.out q
  go_enter Try.func17, Try.ntmps17
  go_wp2_with fail
  clear q0 q1 q7 q9 q11 q12 f11 f12 qw fw
  have ee := ((Ex.refl (fun k => k = o) w).setCell (q := ⟨o, 12, none⟩) (.inl rfl) (.int .i64 (steps + 1)))
  have bb := (B0.out.set_ 12 (.int .i64 (steps + 1)))
  simp only [List.setIfInBounds_toArray, List.set_cons_succ, List.set_cons_zero] at bb
  have Bw1 := Lib.hid (bb)
  have Rw1 := Lib.hid (R0.out.ex ee (by have := NE.out; omega))
  have Xw1 := Lib.hid (X0.out.trans (ee.mono (fun k hk => .inl hk)))
  clear ee bb B0 R0 X0
  generalize (w.setCell ⟨o, 12, none⟩ (.int .i64 (steps + 1))) = w1 at *
  have ee : Ex (fun k => k = hb) w1 (w1.setCell ⟨hb, q, none⟩ (.int .u64 (IntKind.u64.wrap (sq + 2)))) := ((Ex.refl (fun k => k = hb) w1).setCell (q := ⟨hb, q, none⟩) (.inl rfl) (.int .u64 (IntKind.u64.wrap (sq + 2))))
  have bb : RowW (w1.setCell ⟨hb, q, none⟩ (.int .u64 (IntKind.u64.wrap (sq + 2)))) hb (ws.set q (IntKind.u64.wrap (sq + 2))) := Rw1.out.stored q (IntKind.u64.wrap (sq + 2))
  have Bw2 := Lib.hid (Bw1.out.ex ee (by have := NE.out; omega))
  have Rw2 := Lib.hid (bb)
  have Xw2 := Lib.hid (Xw1.out.trans (ee.mono (fun k hk => .inr hk)))
  have EE := Lib.hid ee
  clear ee bb Bw1 Rw1 Xw1
  generalize (w1.setCell ⟨hb, q, none⟩ (.int .u64 (IntKind.u64.wrap (sq + 2)))) = w2 at *
  clear EE
  have ee := ((Ex.refl (fun k => k = o) w2).setCell (q := ⟨o, 11, none⟩) (.inl rfl) (.int .i64 1))
  have bb := (Bw2.out.set_ 11 (.int .i64 1))
  simp only [List.setIfInBounds_toArray, List.set_cons_succ, List.set_cons_zero] at bb
  have Bwz := Lib.hid (bb)
  have Rwz := Lib.hid (Rw2.out.ex ee (by have := NE.out; omega))
  have Xwz := Lib.hid (Xw2.out.trans (ee.mono (fun k hk => .inl hk)))
  clear ee bb Bw2 Rw2 Xw2
  first | (refine bodyPost_ret (results_none rfl _ _ _) rfl ?_) | go_end0
  exact ⟨rfl, Bwz.out, Rwz.out, Xwz.out⟩
set_option maxRecDepth 100000 in
set_option maxHeartbeats 4000000 in
theorem F_fill_out (o hb : Nat) (ws : List Int) (ow : Int) (q : Nat) (fi wo de : Int) (tries : Int) (v : Value) (rec : List Int) (had steps sq nn : Int) (w0 w : World) (ho : RefAt w o ⟨ow, q, fi, wo, de⟩ tries v ⟨0, 2, had, steps, sq, nn⟩) (hr : RowW w hb ws) (hi : WInv ⟨ow, q, fi, wo, de⟩ rec tries ⟨0, 2, had, steps, sq, nn⟩)
    (hf : ∀ y ∈ ws, 0 ≤ y ∧ y ≤ 18446744073709551615) (hv : Ints w0 .u64 v rec) (hl0 : Below w0.heap.size w0 w) (ne : o ≠ hb ∧ w0.heap.size ≤ hb ∧ w0.heap.size ≤ o) (hin : ¬ inW ws (placeF ⟨ow, q, fi, wo, de⟩ sq nn)) :
    Calls Try.prog 17 #[.pointer (some ⟨o, 0, none⟩), .slice (some ⟨hb, 0, none⟩) ws.length ws.length] w fun e w' => e = .returned (.tuple #[]) ∧ RefAt w' o ⟨ow, q, fi, wo, de⟩ tries v ⟨3, 2, had, steps, sq, nn⟩ ∧ RowW w' hb (ws) ∧ Ex (fun k => k = o ∨ k = hb) w w' := by
  have hpl := hi.place
  have hgen := hi.gen
  have hok := hi.right.atOk
  have hsq := hi.sq
  simp only at hsq
  have hg2 : IntKind.u64.wrap (IntKind.u64.wrap (sq.tdiv 2) + 1) = IntKind.u64.wrap (sq / 2 + 1) := by
    rw [Int.tdiv_eq_ediv_of_nonneg hsq.1, u64_wrap_in (show 0 ≤ sq / 2 ∧ sq / 2 ≤ 18446744073709551615 by omega)]
  have hat := rAt_any ⟨ow, q, fi, wo, de⟩ (IntKind.u64.wrap (sq / 2 + 1)) w.drew (by rw [hgen]; omega) hok
  rw [← hg2] at hat
  have HAT := Lib.hid hat
  rw [← hg2] at hpl
  have hpf : placeF ⟨ow, q, fi, wo, de⟩ sq nn = atF ⟨ow, q, fi, wo, de⟩ (IntKind.u64.wrap (IntKind.u64.wrap (sq.tdiv 2) + 1)) + nn := by rw [hg2]; rfl
  have HPL := Lib.hid (hpl.trans hpf.symm)
  have HNB := Lib.hid (show 0 ≤ nn ∧ nn < (rec.length : Int) by
    have h1 := hi.n
    have h2 := hi.len
    simp only at h1 h2
    have := h1.2 trivial trivial
    omega)
  have HRL := Lib.hid (show (rec.length : Int) ≤ 64 by have h2 := hi.len; have h3 := hi.right.1; simp only at h2 h3; omega)
  clear hat hpf hpl hgen hok hsq hg2
  unfold Spot.val at HAT
  simp only at HAT
  have B0 := Lib.hid (show Blk w o 56 _ from ho)
  have R0 := Lib.hid hr
  have X0 := Lib.hid (Ex.refl (fun k => k = o ∨ k = hb) w)
  have HI := Lib.hid hi
  have NE := Lib.hid ne
  have HV := Lib.hid hv
  have HL0 := Lib.hid hl0
  have HFT := Lib.hid hf
  unfold fCs at B0
  simp only [show (0 : Int) + 1 = 1 from rfl, show (1 : Int) + 1 = 2 from rfl, show (2 : Int) + 1 = 3 from rfl, show (3 : Int) + 1 = 4 from rfl] at B0
  have HIN := Lib.hid hin
  have hst : wrap64 (steps + 1) = steps + 1 := hi.wst
  have hne9 : o ≠ hb := ne.1
  have hne8 : hb ≠ o := fun e => ne.1 e.symm
  clear ho hr hi ne hv hl0 hf hin
  have q0 := B0.out.cell 0
  have q1 := B0.out.cell 1
  have q7 := B0.out.cell 7
  have q11 := B0.out.cell 11
  simp only [List.getElem?_toArray, List.getElem?_cons_succ, List.getElem?_cons_zero] at q0 q1 q7 q11
  generalize hA9 : atF ⟨ow, q, fi, wo, de⟩ (IntKind.u64.wrap (IntKind.u64.wrap (sq.tdiv 2) + 1)) = a9 at *
  clear hA9
  go_enter Try.func17, Try.ntmps17
  go_upto_region 3 with fail
  clear q0 q1 q7 q11
  have hne : Nonempty (Held (Below w.heap.size w)) := ⟨⟨w, Below.refl _ _⟩⟩
  have p0 : ∀ y : Held (Below w.heap.size w), y.w.cell? ⟨o, 0, none⟩ = some (.int .i64 ow) := fun y => (B0.out.bl y.ok).cell 0
  have p1 : ∀ y : Held (Below w.heap.size w), y.w.cell? ⟨o, 1, none⟩ = some (.int .i64 (q : Int)) := fun y => (B0.out.bl y.ok).cell 1
  have p2 : ∀ y : Held (Below w.heap.size w), y.w.cell? ⟨o, 2, none⟩ = some (.int .i64 fi) := fun y => (B0.out.bl y.ok).cell 2
  have p3 : ∀ y : Held (Below w.heap.size w), y.w.cell? ⟨o, 3, none⟩ = some (.int .i64 wo) := fun y => (B0.out.bl y.ok).cell 3
  have p4 : ∀ y : Held (Below w.heap.size w), y.w.cell? ⟨o, 4, none⟩ = some (.int .i64 de) := fun y => (B0.out.bl y.ok).cell 4
  have p9 : ∀ y : Held (Below w.heap.size w), y.w.cell? ⟨o, 9, none⟩ = some (.int .u64 sq) := fun y => (B0.out.bl y.ok).cell 9
  have p10 : ∀ y : Held (Below w.heap.size w), y.w.cell? ⟨o, 10, none⟩ = some (.int .i64 nn) := fun y => (B0.out.bl y.ok).cell 10
  refine drawn_bars (S := (Below w.heap.size w)) [([0, 1, 2, 3, 4, 5, 6, 7, 8, 9, 11, 12, 13, 14], 10)] [15, 16] (by kernel_rfl) (by kernel_rfl) (by kernel_rfl) rfl (Below.refl _ _).drew ?_
  refine Phased.go ?_
  simp only [pick, List.map_cons, List.map_nil, List.getElem?_cons_zero, List.getElem?_cons_succ, Option.getD_some]
  repeat (go_big_quiet_step (fail))
  refine wpQuiet_nil ?_
  go_wp2_with fail
  refine HAT.out.mono ?_; rintro e w1 ⟨rfl, hb1⟩
  have hb2 := bl ((Below.refl w.heap.size w).drew) hb1
  go_wp2_with fail
  refine behind_normal ⟨(Below w.heap.size w), fun W h => h, hb2, ?_⟩
  refine Phased.end_ ?_
  have hne5 : Nonempty (Held (fun W => W = w1)) := ⟨⟨_, rfl⟩⟩
  simp only [pick, List.map_cons, List.map_nil, List.getElem?_cons_zero, List.getElem?_cons_succ, Option.getD_some]
  repeat (go_big_quiet_step (fail))
  refine wpQuiet_nil ?_
  clear hne hne5 p0 p1 p2 p3 p4 p9 p10 hb1 HAT
  have HL1 := Lib.hid (bl HL0.out hb2)
  have Bw1 := Lib.hid (B0.out.bl hb2)
  have Rw1 := Lib.hid (R0.out.bl hb2)
  have Xw1 := Lib.hid (X0.out.trans (Ex.of_below hb2))
  clear hb2 B0 R0 X0
  have hno : placeF ⟨ow, q, fi, wo, de⟩ sq nn < 0 ∨ (ws.length : Int) ≤ placeF ⟨ow, q, fi, wo, de⟩ sq nn := by
    have h9 := HIN.out
    unfold inW at h9
    omega
  generalize placeF ⟨ow, q, fi, wo, de⟩ sq nn = pz at *
  have kpl : wrap64 (a9 + nn) = pz := HPL.out
  rcases hno with hno | hno
  · skip
    have k1 : decide (pz < 0) = true := decide_eq_true hno
    have q0 := Bw1.out.cell 0
    have q11 := Bw1.out.cell 11
    simp only [List.getElem?_toArray, List.getElem?_cons_succ, List.getElem?_cons_zero] at q0 q11
    have f11 := Bw1.out.frozen 11
    go_wp2_with fail
    clear q0 q11 f11
    have ee := ((Ex.refl (fun k => k = o) w1).setCell (q := ⟨o, 11, none⟩) (.inl rfl) (.int .i64 3))
    have bb := (Bw1.out.set_ 11 (.int .i64 3))
    simp only [List.setIfInBounds_toArray, List.set_cons_succ, List.set_cons_zero] at bb
    have Bwz := Lib.hid (bb)
    have Rwz := Lib.hid (Rw1.out.ex ee (by have := NE.out; omega))
    have Xwz := Lib.hid (Xw1.out.trans (ee.mono (fun k hk => .inl hk)))
    clear ee bb Bw1 Rw1 Xw1
    first | (refine bodyPost_ret (results_none rfl _ _ _) rfl ?_) | go_end0
    exact ⟨rfl, Bwz.out, Rwz.out, Xwz.out⟩
  · skip
    have hlt0 : ¬ pz < 0 := by omega
    have k1 : decide (pz < 0) = false := decide_eq_false hlt0
    have k2 : decide (pz ≥ (ws.length : Int)) = true := decide_eq_true hno
    have q0 := Bw1.out.cell 0
    have q11 := Bw1.out.cell 11
    simp only [List.getElem?_toArray, List.getElem?_cons_succ, List.getElem?_cons_zero] at q0 q11
    have f11 := Bw1.out.frozen 11
    go_wp2_with fail
    clear q0 q11 f11
    have ee := ((Ex.refl (fun k => k = o) w1).setCell (q := ⟨o, 11, none⟩) (.inl rfl) (.int .i64 3))
    have bb := (Bw1.out.set_ 11 (.int .i64 3))
    simp only [List.setIfInBounds_toArray, List.set_cons_succ, List.set_cons_zero] at bb
    have Bwz := Lib.hid (bb)
    have Rwz := Lib.hid (Rw1.out.ex ee (by have := NE.out; omega))
    have Xwz := Lib.hid (Xw1.out.trans (ee.mono (fun k hk => .inl hk)))
    clear ee bb Bw1 Rw1 Xw1
    first | (refine bodyPost_ret (results_none rfl _ _ _) rfl ?_) | go_end0
    exact ⟨rfl, Bwz.out, Rwz.out, Xwz.out⟩
set_option maxRecDepth 100000 in
set_option maxHeartbeats 4000000 in
theorem F_fill_more (o hb : Nat) (ws : List Int) (ow : Int) (q : Nat) (fi wo de : Int) (tries : Int) (v : Value) (rec : List Int) (had steps sq nn : Int) (w0 w : World) (ho : RefAt w o ⟨ow, q, fi, wo, de⟩ tries v ⟨0, 2, had, steps, sq, nn⟩) (hr : RowW w hb ws) (hi : WInv ⟨ow, q, fi, wo, de⟩ rec tries ⟨0, 2, had, steps, sq, nn⟩)
    (hf : ∀ y ∈ ws, 0 ≤ y ∧ y ≤ 18446744073709551615) (hv : Ints w0 .u64 v rec) (hl0 : Below w0.heap.size w0 w) (ne : o ≠ hb ∧ w0.heap.size ≤ hb ∧ w0.heap.size ≤ o) (hin : inW ws (placeF ⟨ow, q, fi, wo, de⟩ sq nn)) (hv2 : ¬ nn + 1 = (rec.length : Int)) :
    Calls Try.prog 17 #[.pointer (some ⟨o, 0, none⟩), .slice (some ⟨hb, 0, none⟩) ws.length ws.length] w fun e w' => e = .returned (.tuple #[]) ∧ RefAt w' o ⟨ow, q, fi, wo, de⟩ tries v ⟨0, 2, had, steps + 1, sq, nn + 1⟩ ∧ RowW w' hb (ws.set (placeF ⟨ow, q, fi, wo, de⟩ sq nn).toNat (nth rec nn.toNat)) ∧ Ex (fun k => k = o ∨ k = hb) w w' := by
  have hpl := hi.place
  have hgen := hi.gen
  have hok := hi.right.atOk
  have hsq := hi.sq
  simp only at hsq
  have hg2 : IntKind.u64.wrap (IntKind.u64.wrap (sq.tdiv 2) + 1) = IntKind.u64.wrap (sq / 2 + 1) := by
    rw [Int.tdiv_eq_ediv_of_nonneg hsq.1, u64_wrap_in (show 0 ≤ sq / 2 ∧ sq / 2 ≤ 18446744073709551615 by omega)]
  have hat := rAt_any ⟨ow, q, fi, wo, de⟩ (IntKind.u64.wrap (sq / 2 + 1)) w.drew (by rw [hgen]; omega) hok
  rw [← hg2] at hat
  have HAT := Lib.hid hat
  rw [← hg2] at hpl
  have hpf : placeF ⟨ow, q, fi, wo, de⟩ sq nn = atF ⟨ow, q, fi, wo, de⟩ (IntKind.u64.wrap (IntKind.u64.wrap (sq.tdiv 2) + 1)) + nn := by rw [hg2]; rfl
  have HPL := Lib.hid (hpl.trans hpf.symm)
  have HNB := Lib.hid (show 0 ≤ nn ∧ nn < (rec.length : Int) by
    have h1 := hi.n
    have h2 := hi.len
    simp only at h1 h2
    have := h1.2 trivial trivial
    omega)
  have HRL := Lib.hid (show (rec.length : Int) ≤ 64 by have h2 := hi.len; have h3 := hi.right.1; simp only at h2 h3; omega)
  clear hat hpf hpl hgen hok hsq hg2
  unfold Spot.val at HAT
  simp only at HAT
  obtain ⟨p, hp⟩ : ∃ p : Nat, placeF ⟨ow, q, fi, wo, de⟩ sq nn = p := ⟨(placeF ⟨ow, q, fi, wo, de⟩ sq nn).toNat, by have := hin.1; omega⟩
  have HPP := Lib.hid hp
  rw [hp] at HPL
  have hin2 : p < ws.length := by have := hin.2; rw [hp] at this; omega
  clear hin hp
  have B0 := Lib.hid (show Blk w o 56 _ from ho)
  have R0 := Lib.hid hr
  have X0 := Lib.hid (Ex.refl (fun k => k = o ∨ k = hb) w)
  have HI := Lib.hid hi
  have NE := Lib.hid ne
  have HV := Lib.hid hv
  have HL0 := Lib.hid hl0
  have HFT := Lib.hid hf
  unfold fCs at B0
  simp only [show (0 : Int) + 1 = 1 from rfl, show (1 : Int) + 1 = 2 from rfl, show (2 : Int) + 1 = 3 from rfl, show (3 : Int) + 1 = 4 from rfl] at B0
  have HIN2 := Lib.hid hin2
  have HV2 := Lib.hid hv2
  have hst : wrap64 (steps + 1) = steps + 1 := hi.wst
  have hne9 : o ≠ hb := ne.1
  have hne8 : hb ≠ o := fun e => ne.1 e.symm
  clear ho hr hi ne hv hl0 hf hin2 hv2
  have q0 := B0.out.cell 0
  have q1 := B0.out.cell 1
  have q7 := B0.out.cell 7
  have q11 := B0.out.cell 11
  simp only [List.getElem?_toArray, List.getElem?_cons_succ, List.getElem?_cons_zero] at q0 q1 q7 q11
  generalize hA9 : atF ⟨ow, q, fi, wo, de⟩ (IntKind.u64.wrap (IntKind.u64.wrap (sq.tdiv 2) + 1)) = a9 at *
  clear hA9
  go_enter Try.func17, Try.ntmps17
  go_upto_region 3 with fail
  clear q0 q1 q7 q11
  have hne : Nonempty (Held (Below w.heap.size w)) := ⟨⟨w, Below.refl _ _⟩⟩
  have p0 : ∀ y : Held (Below w.heap.size w), y.w.cell? ⟨o, 0, none⟩ = some (.int .i64 ow) := fun y => (B0.out.bl y.ok).cell 0
  have p1 : ∀ y : Held (Below w.heap.size w), y.w.cell? ⟨o, 1, none⟩ = some (.int .i64 (q : Int)) := fun y => (B0.out.bl y.ok).cell 1
  have p2 : ∀ y : Held (Below w.heap.size w), y.w.cell? ⟨o, 2, none⟩ = some (.int .i64 fi) := fun y => (B0.out.bl y.ok).cell 2
  have p3 : ∀ y : Held (Below w.heap.size w), y.w.cell? ⟨o, 3, none⟩ = some (.int .i64 wo) := fun y => (B0.out.bl y.ok).cell 3
  have p4 : ∀ y : Held (Below w.heap.size w), y.w.cell? ⟨o, 4, none⟩ = some (.int .i64 de) := fun y => (B0.out.bl y.ok).cell 4
  have p9 : ∀ y : Held (Below w.heap.size w), y.w.cell? ⟨o, 9, none⟩ = some (.int .u64 sq) := fun y => (B0.out.bl y.ok).cell 9
  have p10 : ∀ y : Held (Below w.heap.size w), y.w.cell? ⟨o, 10, none⟩ = some (.int .i64 nn) := fun y => (B0.out.bl y.ok).cell 10
  refine drawn_bars (S := (Below w.heap.size w)) [([0, 1, 2, 3, 4, 5, 6, 7, 8, 9, 11, 12, 13, 14], 10)] [15, 16] (by kernel_rfl) (by kernel_rfl) (by kernel_rfl) rfl (Below.refl _ _).drew ?_
  refine Phased.go ?_
  simp only [pick, List.map_cons, List.map_nil, List.getElem?_cons_zero, List.getElem?_cons_succ, Option.getD_some]
  repeat (go_big_quiet_step (fail))
  refine wpQuiet_nil ?_
  go_wp2_with fail
  refine HAT.out.mono ?_; rintro e w1 ⟨rfl, hb1⟩
  have hb2 := bl ((Below.refl w.heap.size w).drew) hb1
  go_wp2_with fail
  refine behind_normal ⟨(Below w.heap.size w), fun W h => h, hb2, ?_⟩
  refine Phased.end_ ?_
  have hne5 : Nonempty (Held (fun W => W = w1)) := ⟨⟨_, rfl⟩⟩
  simp only [pick, List.map_cons, List.map_nil, List.getElem?_cons_zero, List.getElem?_cons_succ, Option.getD_some]
  repeat (go_big_quiet_step (fail))
  refine wpQuiet_nil ?_
  clear hne hne5 p0 p1 p2 p3 p4 p9 p10 hb1 HAT
  have HL1 := Lib.hid (bl HL0.out hb2)
  have Bw1 := Lib.hid (B0.out.bl hb2)
  have Rw1 := Lib.hid (R0.out.bl hb2)
  have Xw1 := Lib.hid (X0.out.trans (Ex.of_below hb2))
  clear hb2 B0 R0 X0
  have HIN := HIN2
  have k1 : decide ((p : Int) < 0) = false := decide_eq_false (by omega)
  have kq0 : (0 : Int) ≤ (p : Int) := by omega
  have kq1 : (p : Int) < (ws.length : Int) := by have := HIN.out; omega
  have k2 : decide ((p : Int) ≥ (ws.length : Int)) = false := decide_eq_false (by omega)
  have kqn : p < ws.length := HIN.out
  have kpl : wrap64 (a9 + nn) = (p : Int) := HPL.out
  obtain ⟨j, rfl⟩ : ∃ j : Nat, nn = j := ⟨nn.toNat, by have := HNB.out; omega⟩
  have HJ := Lib.hid (show j < rec.length by have := HNB.out; omega)
  obtain ⟨A, cv, rfl, -, hfv⟩ := HV.out.form
  obtain ⟨bv, ov, rfl, hbv, hcv⟩ := hfv (by intro hh; have := HJ.out; rw [hh] at this; simp at this)
  have HCV := Lib.hid (show bv < w0.heap.size ∧ w1.cell? ⟨bv, ov + j, none⟩ = some (.int .u64 (nth rec j)) from ⟨hbv, (HL1.out.cell (p := ⟨bv, ov + j, none⟩) hbv).trans (hcv j HJ.out)⟩)
  clear hfv hbv hcv
  have q0 := Bw1.out.cell 0
  have q7 := Bw1.out.cell 7
  have q12 := Bw1.out.cell 12
  simp only [List.getElem?_toArray, List.getElem?_cons_succ, List.getElem?_cons_zero] at q0 q7 q12
  have f12 := Bw1.out.frozen 12
  go_upto_region 20 with fail
  have HCV2 := Lib.hid (Ex.cell ((Ex.refl (fun k => k = o) w1).setCell (q := ⟨o, 12, none⟩) (.inl rfl) (.int .i64 (steps + 1))) HCV.out.2 (by have := NE.out; have := HCV.out.1; omega))
  clear q0 q7 q12 f12
  have ee := ((Ex.refl (fun k => k = o) w1).setCell (q := ⟨o, 12, none⟩) (.inl rfl) (.int .i64 (steps + 1)))
  have bb := (Bw1.out.set_ 12 (.int .i64 (steps + 1)))
  simp only [List.setIfInBounds_toArray, List.set_cons_succ, List.set_cons_zero] at bb
  have Bw2 := Lib.hid (bb)
  have Rw2 := Lib.hid (Rw1.out.ex ee (by have := NE.out; omega))
  have Xw2 := Lib.hid (Xw1.out.trans (ee.mono (fun k hk => .inl hk)))
  clear ee bb Bw1 Rw1 Xw1
  generalize (w1.setCell ⟨o, 12, none⟩ (.int .i64 (steps + 1))) = w2 at *
  have kj0 : (0 : Int) ≤ (j : Int) := by omega
  have kj1 : (j : Int) < (rec.length : Int) := by have := HJ.out; omega
  have kj2 : (j : Int) ≤ 64 := by have := HRL.out; omega
  have hne : Nonempty (Held (Ex (fun k => k = hb) w2)) := ⟨⟨w2, Ex.refl _ _⟩⟩
  have p0 : ∀ y : Held (Ex (fun k => k = hb) w2), y.w.cell? ⟨o, 0, none⟩ = some (.int .i64 ow) := fun y => (Bw2.out.ex y.ok (by have := NE.out; omega)).cell 0
  have p5 : ∀ y : Held (Ex (fun k => k = hb) w2), y.w.cell? ⟨o, 5, none⟩ = some (.slice (some ⟨bv, ov, none⟩) rec.length cv) := fun y => (Bw2.out.ex y.ok (by have := NE.out; omega)).cell 5
  have p10 : ∀ y : Held (Ex (fun k => k = hb) w2), y.w.cell? ⟨o, 10, none⟩ = some (.int .i64 (j : Int)) := fun y => (Bw2.out.ex y.ok (by have := NE.out; omega)).cell 10
  have pv : ∀ y : Held (Ex (fun k => k = hb) w2), y.w.cell? ⟨bv, ov + j, none⟩ = some (.int .u64 (nth rec j)) := fun y => Ex.cell y.ok HCV2.out (by have := NE.out; have := HCV.out.1; omega)
  refine drawn_bars (S := (Ex (fun k => k = hb) w2)) [([0, 1, 2, 3, 4, 5, 6, 7, 8, 9, 10, 11, 12], 13)] [] (by kernel_rfl) (by kernel_rfl) (by kernel_rfl) rfl (Ex.refl _ _).drew ?_
  refine Phased.go ?_
  simp only [pick, List.map_cons, List.map_nil, List.getElem?_cons_zero, List.getElem?_cons_succ, Option.getD_some]
  repeat (go_big_quiet_step (fail))
  refine wpQuiet_nil ?_
  clear hne p0 p5 p10 pv
  have qw := Rw2.out.word HIN.out
  have fw := Blk.frozen Rw2.out p
  go_wp2_with fail
  clear qw fw
  have ee : Ex (fun k => k = hb) w2 ((w2.setCell ⟨hb, p, none⟩ (.int .u64 (nth rec j))).drew) := ((Ex.refl (fun k => k = hb) w2).setCell (q := ⟨hb, p, none⟩) (.inl rfl) (.int .u64 (nth rec j))).drew
  have bb : RowW ((w2.setCell ⟨hb, p, none⟩ (.int .u64 (nth rec j))).drew) hb (ws.set p (nth rec j)) := Rw2.out.stored p (nth rec j)
  have Bw3 := Lib.hid (Bw2.out.ex ee (by have := NE.out; omega))
  have Rw3 := Lib.hid (bb)
  have Xw3 := Lib.hid (Xw2.out.trans (ee.mono (fun k hk => .inr hk)))
  have EE := Lib.hid ee
  clear ee bb Bw2 Rw2 Xw2
  generalize ((w2.setCell ⟨hb, p, none⟩ (.int .u64 (nth rec j))).drew) = w3 at *
  refine behind_normal ⟨fun W => W = w3, fun W hW => by rw [hW]; exact EE.out, rfl, ?_⟩
  refine Phased.end_ ?_
  simp only [pick, List.map_cons, List.map_nil, List.getElem?_cons_zero, List.getElem?_cons_succ, Option.getD_some]
  repeat (go_big_quiet_step (fail))
  refine wpQuiet_nil ?_
  clear EE
  have q0 := Bw3.out.cell 0
  have q10 := Bw3.out.cell 10
  simp only [List.getElem?_toArray, List.getElem?_cons_succ, List.getElem?_cons_zero] at q0 q10
  have f10 := Bw3.out.frozen 10
  go_upto_region 22 with fail
  clear q0 q10 f10
  have ee := ((Ex.refl (fun k => k = o) w3).setCell (q := ⟨o, 10, none⟩) (.inl rfl) (.int .i64 ((j : Int) + 1)))
  have bb := (Bw3.out.set_ 10 (.int .i64 ((j : Int) + 1)))
  simp only [List.setIfInBounds_toArray, List.set_cons_succ, List.set_cons_zero] at bb
  have Bw4 := Lib.hid (bb)
  have Rw4 := Lib.hid (Rw3.out.ex ee (by have := NE.out; omega))
  have Xw4 := Lib.hid (Xw3.out.trans (ee.mono (fun k hk => .inl hk)))
  clear ee bb Bw3 Rw3 Xw3
  generalize (w3.setCell ⟨o, 10, none⟩ (.int .i64 ((j : Int) + 1))) = w4 at *
  have hne : Nonempty (Held (fun W => W = w4.drew)) := ⟨⟨_, rfl⟩⟩
  have p0 : ∀ y : Held (fun W => W = w4.drew), y.w.cell? ⟨o, 0, none⟩ = some (.int .i64 ow) := fun y => by rw [y.ok]; exact Bw4.out.cell 0
  have p5 : ∀ y : Held (fun W => W = w4.drew), y.w.cell? ⟨o, 5, none⟩ = some (.slice (some ⟨bv, ov, none⟩) rec.length cv) := fun y => by rw [y.ok]; exact Bw4.out.cell 5
  have p10 : ∀ y : Held (fun W => W = w4.drew), y.w.cell? ⟨o, 10, none⟩ = some (.int .i64 ((j : Int) + 1)) := fun y => by rw [y.ok]; exact Bw4.out.cell 10
  have kl : ((j : Int) + 1 == (rec.length : Int)) = false := beq_eq_false_iff_ne.2 HV2.out
  refine drawn_bars (S := fun _ => True) [] [0, 1, 2, 3, 4, 5, 6, 7, 8, 9] (by kernel_rfl) (by kernel_rfl) (by kernel_rfl) rfl trivial ?_
  refine Phased.end_ ?_
  simp only [pick, List.map_cons, List.map_nil, List.getElem?_cons_zero, List.getElem?_cons_succ, Option.getD_some]
  repeat (go_big_quiet_step (fail))
  refine wpQuiet_nil ?_
  clear hne p0 p5 p10
  have Bw5 := Lib.hid (show Blk w4.drew o 56 _ from Bw4.out)
  have Rw5 := Lib.hid (show RowW w4.drew hb _ from Rw4.out)
  have Xw5 := Lib.hid (Xw4.out.trans (Ex.refl _ w4).drew)
  clear Bw4 Rw4 Xw4
  generalize w4.drew = w5 at *
  go_wp2_with fail
  first | (refine bodyPost_ret (results_none rfl _ _ _) rfl ?_) | go_end0
  rw [HPP.out, Int.toNat_natCast, Int.toNat_natCast]
  exact ⟨rfl, Bw5.out, Rw5.out, Xw5.out⟩
set_option maxRecDepth 100000 in
set_option maxHeartbeats 4000000 in
theorem F_fill_last (o hb : Nat) (ws : List Int) (ow : Int) (q : Nat) (fi wo de : Int) (tries : Int) (v : Value) (rec : List Int) (had steps sq nn : Int) (w0 w : World) (ho : RefAt w o ⟨ow, q, fi, wo, de⟩ tries v ⟨0, 2, had, steps, sq, nn⟩) (hr : RowW w hb ws) (hi : WInv ⟨ow, q, fi, wo, de⟩ rec tries ⟨0, 2, had, steps, sq, nn⟩)
    (hf : ∀ y ∈ ws, 0 ≤ y ∧ y ≤ 18446744073709551615) (hv : Ints w0 .u64 v rec) (hl0 : Below w0.heap.size w0 w) (ne : o ≠ hb ∧ w0.heap.size ≤ hb ∧ w0.heap.size ≤ o) (hin : inW ws (placeF ⟨ow, q, fi, wo, de⟩ sq nn)) (hv2 : nn + 1 = (rec.length : Int)) :
    Calls Try.prog 17 #[.pointer (some ⟨o, 0, none⟩), .slice (some ⟨hb, 0, none⟩) ws.length ws.length] w fun e w' => e = .returned (.tuple #[]) ∧ RefAt w' o ⟨ow, q, fi, wo, de⟩ tries v ⟨0, 3, had, steps + 1, sq, nn + 1⟩ ∧ RowW w' hb (ws.set (placeF ⟨ow, q, fi, wo, de⟩ sq nn).toNat (nth rec nn.toNat)) ∧ Ex (fun k => k = o ∨ k = hb) w w' := by
  have hpl := hi.place
  have hgen := hi.gen
  have hok := hi.right.atOk
  have hsq := hi.sq
  simp only at hsq
  have hg2 : IntKind.u64.wrap (IntKind.u64.wrap (sq.tdiv 2) + 1) = IntKind.u64.wrap (sq / 2 + 1) := by
    rw [Int.tdiv_eq_ediv_of_nonneg hsq.1, u64_wrap_in (show 0 ≤ sq / 2 ∧ sq / 2 ≤ 18446744073709551615 by omega)]
  have hat := rAt_any ⟨ow, q, fi, wo, de⟩ (IntKind.u64.wrap (sq / 2 + 1)) w.drew (by rw [hgen]; omega) hok
  rw [← hg2] at hat
  have HAT := Lib.hid hat
  rw [← hg2] at hpl
  have hpf : placeF ⟨ow, q, fi, wo, de⟩ sq nn = atF ⟨ow, q, fi, wo, de⟩ (IntKind.u64.wrap (IntKind.u64.wrap (sq.tdiv 2) + 1)) + nn := by rw [hg2]; rfl
  have HPL := Lib.hid (hpl.trans hpf.symm)
  have HNB := Lib.hid (show 0 ≤ nn ∧ nn < (rec.length : Int) by
    have h1 := hi.n
    have h2 := hi.len
    simp only at h1 h2
    have := h1.2 trivial trivial
    omega)
  have HRL := Lib.hid (show (rec.length : Int) ≤ 64 by have h2 := hi.len; have h3 := hi.right.1; simp only at h2 h3; omega)
  clear hat hpf hpl hgen hok hsq hg2
  unfold Spot.val at HAT
  simp only at HAT
  obtain ⟨p, hp⟩ : ∃ p : Nat, placeF ⟨ow, q, fi, wo, de⟩ sq nn = p := ⟨(placeF ⟨ow, q, fi, wo, de⟩ sq nn).toNat, by have := hin.1; omega⟩
  have HPP := Lib.hid hp
  rw [hp] at HPL
  have hin2 : p < ws.length := by have := hin.2; rw [hp] at this; omega
  clear hin hp
  have B0 := Lib.hid (show Blk w o 56 _ from ho)
  have R0 := Lib.hid hr
  have X0 := Lib.hid (Ex.refl (fun k => k = o ∨ k = hb) w)
  have HI := Lib.hid hi
  have NE := Lib.hid ne
  have HV := Lib.hid hv
  have HL0 := Lib.hid hl0
  have HFT := Lib.hid hf
  unfold fCs at B0
  simp only [show (0 : Int) + 1 = 1 from rfl, show (1 : Int) + 1 = 2 from rfl, show (2 : Int) + 1 = 3 from rfl, show (3 : Int) + 1 = 4 from rfl] at B0
  have HIN2 := Lib.hid hin2
  have HV2 := Lib.hid hv2
  have hst : wrap64 (steps + 1) = steps + 1 := hi.wst
  have hne9 : o ≠ hb := ne.1
  have hne8 : hb ≠ o := fun e => ne.1 e.symm
  clear ho hr hi ne hv hl0 hf hin2 hv2
  have q0 := B0.out.cell 0
  have q1 := B0.out.cell 1
  have q7 := B0.out.cell 7
  have q11 := B0.out.cell 11
  simp only [List.getElem?_toArray, List.getElem?_cons_succ, List.getElem?_cons_zero] at q0 q1 q7 q11
  generalize hA9 : atF ⟨ow, q, fi, wo, de⟩ (IntKind.u64.wrap (IntKind.u64.wrap (sq.tdiv 2) + 1)) = a9 at *
  clear hA9
  go_enter Try.func17, Try.ntmps17
  go_upto_region 3 with fail
  clear q0 q1 q7 q11
  have hne : Nonempty (Held (Below w.heap.size w)) := ⟨⟨w, Below.refl _ _⟩⟩
  have p0 : ∀ y : Held (Below w.heap.size w), y.w.cell? ⟨o, 0, none⟩ = some (.int .i64 ow) := fun y => (B0.out.bl y.ok).cell 0
  have p1 : ∀ y : Held (Below w.heap.size w), y.w.cell? ⟨o, 1, none⟩ = some (.int .i64 (q : Int)) := fun y => (B0.out.bl y.ok).cell 1
  have p2 : ∀ y : Held (Below w.heap.size w), y.w.cell? ⟨o, 2, none⟩ = some (.int .i64 fi) := fun y => (B0.out.bl y.ok).cell 2
  have p3 : ∀ y : Held (Below w.heap.size w), y.w.cell? ⟨o, 3, none⟩ = some (.int .i64 wo) := fun y => (B0.out.bl y.ok).cell 3
  have p4 : ∀ y : Held (Below w.heap.size w), y.w.cell? ⟨o, 4, none⟩ = some (.int .i64 de) := fun y => (B0.out.bl y.ok).cell 4
  have p9 : ∀ y : Held (Below w.heap.size w), y.w.cell? ⟨o, 9, none⟩ = some (.int .u64 sq) := fun y => (B0.out.bl y.ok).cell 9
  have p10 : ∀ y : Held (Below w.heap.size w), y.w.cell? ⟨o, 10, none⟩ = some (.int .i64 nn) := fun y => (B0.out.bl y.ok).cell 10
  refine drawn_bars (S := (Below w.heap.size w)) [([0, 1, 2, 3, 4, 5, 6, 7, 8, 9, 11, 12, 13, 14], 10)] [15, 16] (by kernel_rfl) (by kernel_rfl) (by kernel_rfl) rfl (Below.refl _ _).drew ?_
  refine Phased.go ?_
  simp only [pick, List.map_cons, List.map_nil, List.getElem?_cons_zero, List.getElem?_cons_succ, Option.getD_some]
  repeat (go_big_quiet_step (fail))
  refine wpQuiet_nil ?_
  go_wp2_with fail
  refine HAT.out.mono ?_; rintro e w1 ⟨rfl, hb1⟩
  have hb2 := bl ((Below.refl w.heap.size w).drew) hb1
  go_wp2_with fail
  refine behind_normal ⟨(Below w.heap.size w), fun W h => h, hb2, ?_⟩
  refine Phased.end_ ?_
  have hne5 : Nonempty (Held (fun W => W = w1)) := ⟨⟨_, rfl⟩⟩
  simp only [pick, List.map_cons, List.map_nil, List.getElem?_cons_zero, List.getElem?_cons_succ, Option.getD_some]
  repeat (go_big_quiet_step (fail))
  refine wpQuiet_nil ?_
  clear hne hne5 p0 p1 p2 p3 p4 p9 p10 hb1 HAT
  have HL1 := Lib.hid (bl HL0.out hb2)
  have Bw1 := Lib.hid (B0.out.bl hb2)
  have Rw1 := Lib.hid (R0.out.bl hb2)
  have Xw1 := Lib.hid (X0.out.trans (Ex.of_below hb2))
  clear hb2 B0 R0 X0
  have HIN := HIN2
  have k1 : decide ((p : Int) < 0) = false := decide_eq_false (by omega)
  have kq0 : (0 : Int) ≤ (p : Int) := by omega
  have kq1 : (p : Int) < (ws.length : Int) := by have := HIN.out; omega
  have k2 : decide ((p : Int) ≥ (ws.length : Int)) = false := decide_eq_false (by omega)
  have kqn : p < ws.length := HIN.out
  have kpl : wrap64 (a9 + nn) = (p : Int) := HPL.out
  obtain ⟨j, rfl⟩ : ∃ j : Nat, nn = j := ⟨nn.toNat, by have := HNB.out; omega⟩
  have HJ := Lib.hid (show j < rec.length by have := HNB.out; omega)
  obtain ⟨A, cv, rfl, -, hfv⟩ := HV.out.form
  obtain ⟨bv, ov, rfl, hbv, hcv⟩ := hfv (by intro hh; have := HJ.out; rw [hh] at this; simp at this)
  have HCV := Lib.hid (show bv < w0.heap.size ∧ w1.cell? ⟨bv, ov + j, none⟩ = some (.int .u64 (nth rec j)) from ⟨hbv, (HL1.out.cell (p := ⟨bv, ov + j, none⟩) hbv).trans (hcv j HJ.out)⟩)
  clear hfv hbv hcv
  have q0 := Bw1.out.cell 0
  have q7 := Bw1.out.cell 7
  have q12 := Bw1.out.cell 12
  simp only [List.getElem?_toArray, List.getElem?_cons_succ, List.getElem?_cons_zero] at q0 q7 q12
  have f12 := Bw1.out.frozen 12
  go_upto_region 20 with fail
  have HCV2 := Lib.hid (Ex.cell ((Ex.refl (fun k => k = o) w1).setCell (q := ⟨o, 12, none⟩) (.inl rfl) (.int .i64 (steps + 1))) HCV.out.2 (by have := NE.out; have := HCV.out.1; omega))
  clear q0 q7 q12 f12
  have ee := ((Ex.refl (fun k => k = o) w1).setCell (q := ⟨o, 12, none⟩) (.inl rfl) (.int .i64 (steps + 1)))
  have bb := (Bw1.out.set_ 12 (.int .i64 (steps + 1)))
  simp only [List.setIfInBounds_toArray, List.set_cons_succ, List.set_cons_zero] at bb
  have Bw2 := Lib.hid (bb)
  have Rw2 := Lib.hid (Rw1.out.ex ee (by have := NE.out; omega))
  have Xw2 := Lib.hid (Xw1.out.trans (ee.mono (fun k hk => .inl hk)))
  clear ee bb Bw1 Rw1 Xw1
  generalize (w1.setCell ⟨o, 12, none⟩ (.int .i64 (steps + 1))) = w2 at *
  have kj0 : (0 : Int) ≤ (j : Int) := by omega
  have kj1 : (j : Int) < (rec.length : Int) := by have := HJ.out; omega
  have kj2 : (j : Int) ≤ 64 := by have := HRL.out; omega
  have hne : Nonempty (Held (Ex (fun k => k = hb) w2)) := ⟨⟨w2, Ex.refl _ _⟩⟩
  have p0 : ∀ y : Held (Ex (fun k => k = hb) w2), y.w.cell? ⟨o, 0, none⟩ = some (.int .i64 ow) := fun y => (Bw2.out.ex y.ok (by have := NE.out; omega)).cell 0
  have p5 : ∀ y : Held (Ex (fun k => k = hb) w2), y.w.cell? ⟨o, 5, none⟩ = some (.slice (some ⟨bv, ov, none⟩) rec.length cv) := fun y => (Bw2.out.ex y.ok (by have := NE.out; omega)).cell 5
  have p10 : ∀ y : Held (Ex (fun k => k = hb) w2), y.w.cell? ⟨o, 10, none⟩ = some (.int .i64 (j : Int)) := fun y => (Bw2.out.ex y.ok (by have := NE.out; omega)).cell 10
  have pv : ∀ y : Held (Ex (fun k => k = hb) w2), y.w.cell? ⟨bv, ov + j, none⟩ = some (.int .u64 (nth rec j)) := fun y => Ex.cell y.ok HCV2.out (by have := NE.out; have := HCV.out.1; omega)
  refine drawn_bars (S := (Ex (fun k => k = hb) w2)) [([0, 1, 2, 3, 4, 5, 6, 7, 8, 9, 10, 11, 12], 13)] [] (by kernel_rfl) (by kernel_rfl) (by kernel_rfl) rfl (Ex.refl _ _).drew ?_
  refine Phased.go ?_
  simp only [pick, List.map_cons, List.map_nil, List.getElem?_cons_zero, List.getElem?_cons_succ, Option.getD_some]
  repeat (go_big_quiet_step (fail))
  refine wpQuiet_nil ?_
  clear hne p0 p5 p10 pv
  have qw := Rw2.out.word HIN.out
  have fw := Blk.frozen Rw2.out p
  go_wp2_with fail
  clear qw fw
  have ee : Ex (fun k => k = hb) w2 ((w2.setCell ⟨hb, p, none⟩ (.int .u64 (nth rec j))).drew) := ((Ex.refl (fun k => k = hb) w2).setCell (q := ⟨hb, p, none⟩) (.inl rfl) (.int .u64 (nth rec j))).drew
  have bb : RowW ((w2.setCell ⟨hb, p, none⟩ (.int .u64 (nth rec j))).drew) hb (ws.set p (nth rec j)) := Rw2.out.stored p (nth rec j)
  have Bw3 := Lib.hid (Bw2.out.ex ee (by have := NE.out; omega))
  have Rw3 := Lib.hid (bb)
  have Xw3 := Lib.hid (Xw2.out.trans (ee.mono (fun k hk => .inr hk)))
  have EE := Lib.hid ee
  clear ee bb Bw2 Rw2 Xw2
  generalize ((w2.setCell ⟨hb, p, none⟩ (.int .u64 (nth rec j))).drew) = w3 at *
  refine behind_normal ⟨fun W => W = w3, fun W hW => by rw [hW]; exact EE.out, rfl, ?_⟩
  refine Phased.end_ ?_
  simp only [pick, List.map_cons, List.map_nil, List.getElem?_cons_zero, List.getElem?_cons_succ, Option.getD_some]
  repeat (go_big_quiet_step (fail))
  refine wpQuiet_nil ?_
  clear EE
  have q0 := Bw3.out.cell 0
  have q10 := Bw3.out.cell 10
  simp only [List.getElem?_toArray, List.getElem?_cons_succ, List.getElem?_cons_zero] at q0 q10
  have f10 := Bw3.out.frozen 10
  go_upto_region 22 with fail
  clear q0 q10 f10
  have ee := ((Ex.refl (fun k => k = o) w3).setCell (q := ⟨o, 10, none⟩) (.inl rfl) (.int .i64 ((j : Int) + 1)))
  have bb := (Bw3.out.set_ 10 (.int .i64 ((j : Int) + 1)))
  simp only [List.setIfInBounds_toArray, List.set_cons_succ, List.set_cons_zero] at bb
  have Bw4 := Lib.hid (bb)
  have Rw4 := Lib.hid (Rw3.out.ex ee (by have := NE.out; omega))
  have Xw4 := Lib.hid (Xw3.out.trans (ee.mono (fun k hk => .inl hk)))
  clear ee bb Bw3 Rw3 Xw3
  generalize (w3.setCell ⟨o, 10, none⟩ (.int .i64 ((j : Int) + 1))) = w4 at *
  have hne : Nonempty (Held (fun W => W = w4.drew)) := ⟨⟨_, rfl⟩⟩
  have p0 : ∀ y : Held (fun W => W = w4.drew), y.w.cell? ⟨o, 0, none⟩ = some (.int .i64 ow) := fun y => by rw [y.ok]; exact Bw4.out.cell 0
  have p5 : ∀ y : Held (fun W => W = w4.drew), y.w.cell? ⟨o, 5, none⟩ = some (.slice (some ⟨bv, ov, none⟩) rec.length cv) := fun y => by rw [y.ok]; exact Bw4.out.cell 5
  have p10 : ∀ y : Held (fun W => W = w4.drew), y.w.cell? ⟨o, 10, none⟩ = some (.int .i64 ((j : Int) + 1)) := fun y => by rw [y.ok]; exact Bw4.out.cell 10
  have kl : ((j : Int) + 1 == (rec.length : Int)) = true := beq_iff_eq.2 HV2.out
  refine drawn_bars (S := fun _ => True) [] [0, 1, 2, 3, 4, 5, 6, 7, 8, 9] (by kernel_rfl) (by kernel_rfl) (by kernel_rfl) rfl trivial ?_
  refine Phased.end_ ?_
  simp only [pick, List.map_cons, List.map_nil, List.getElem?_cons_zero, List.getElem?_cons_succ, Option.getD_some]
  repeat (go_big_quiet_step (fail))
  refine wpQuiet_nil ?_
  clear hne p0 p5 p10
  have Bw5 := Lib.hid (show Blk w4.drew o 56 _ from Bw4.out)
  have Rw5 := Lib.hid (show RowW w4.drew hb _ from Rw4.out)
  have Xw5 := Lib.hid (Xw4.out.trans (Ex.refl _ w4).drew)
  clear Bw4 Rw4 Xw4
  generalize w4.drew = w5 at *
  have q0 := Bw5.out.cell 0
  have q7 := Bw5.out.cell 7
  simp only [List.getElem?_toArray, List.getElem?_cons_succ, List.getElem?_cons_zero] at q0 q7
  have f7 := Bw5.out.frozen 7
  go_wp2_with fail
  clear q0 q7 f7
  have ee := ((Ex.refl (fun k => k = o) w5).setCell (q := ⟨o, 7, none⟩) (.inl rfl) (.int .i64 4))
  have bb := (Bw5.out.set_ 7 (.int .i64 4))
  simp only [List.setIfInBounds_toArray, List.set_cons_succ, List.set_cons_zero] at bb
  have Bwz := Lib.hid (bb)
  have Rwz := Lib.hid (Rw5.out.ex ee (by have := NE.out; omega))
  have Xwz := Lib.hid (Xw5.out.trans (ee.mono (fun k hk => .inl hk)))
  clear ee bb Bw5 Rw5 Xw5
  first | (refine bodyPost_ret (results_none rfl _ _ _) rfl ?_) | go_end0
  rw [HPP.out, Int.toNat_natCast, Int.toNat_natCast]
  exact ⟨rfl, Bwz.out, Rwz.out, Xwz.out⟩
set_option maxRecDepth 100000 in
theorem F_done (o hb n c : Nat) (s : Spot) (tries : Int) (v : Value) (x : WS) (w : World) (ho : RefAt w o s tries v x) (hh : x.how ≠ 0) :
    Calls Try.prog 17 #[.pointer (some ⟨o, 0, none⟩), .slice (some ⟨hb, 0, none⟩) n c] w fun e w' => e = .returned (.tuple #[]) ∧ w = w' := by
  have q0 := Blk.cell ho 0
  have q11 := Blk.cell ho 11
  simp only [fCs, List.getElem?_toArray, List.getElem?_cons_succ, List.getElem?_cons_zero] at q0 q11
  have hd : (x.how != 0) = true := by simpa using hh
  clear ho hh
  go_enter Try.func17, Try.ntmps17
  go_wp2_with fail
  first | (refine bodyPost_ret (results_none rfl _ _ _) rfl ?_) | go_end0
  exact ⟨rfl, rfl⟩
/-- what the document's step makes of the publishing and of the words -/
def fStep (s : Spot) (rec : List Int) (tries : Int) (x : WS) (ws : List Int) : WS × List Int :=
  if x.how = 0 ∧ x.next = 0 ∧ ¬ inW ws s.seq then (⟨3, 0, x.had, x.steps, x.sq, x.n⟩, ws) else ((wStep s rec tries x ws 0).1, (wStep s rec tries x ws 0).2.1)
theorem FStep_any (o hb : Nat) (ws : List Int) (s : Spot) (tries : Int) (v : Value) (rec : List Int) (x : WS) (w0 w : World) (ho : RefAt w o s tries v x) (hr : RowW w hb ws) (hi : WInv s rec tries x)
    (hf : ∀ y ∈ ws, 0 ≤ y ∧ y ≤ 18446744073709551615) (hv : Ints w0 .u64 v rec) (hl0 : Below w0.heap.size w0 w) (ne : o ≠ hb ∧ w0.heap.size ≤ hb ∧ w0.heap.size ≤ o) :
    Calls Try.prog 17 #[.pointer (some ⟨o, 0, none⟩), .slice (some ⟨hb, 0, none⟩) ws.length ws.length] w fun e w' => e = .returned (.tuple #[]) ∧ RefAt w' o s tries v (fStep s rec tries x ws).1 ∧ RowW w' hb (fStep s rec tries x ws).2 ∧ Ex (fun k => k = o ∨ k = hb) w w' := by
  by_cases hh : x.how = 0
  · have hnx := hi.next
    obtain ⟨how, next, had, steps, sq, nn⟩ := x
    simp only at hh hnx
    subst hh
    obtain ⟨ow, se, fi, wo, de⟩ := s
    have hse := hi.right.2.2.2.1
    simp only at hse
    obtain ⟨q, rfl⟩ : ∃ q : Nat, se = q := ⟨se.toNat, by omega⟩
    have hiw : inW ws (q : Int) ↔ q < ws.length := ⟨fun h => by have := h.2; omega, fun h => ⟨by omega, by omega⟩⟩
    rcases hnx with rfl | rfl | rfl | rfl
    · by_cases hin : q < ws.length
      · have hwq : wordF ws (q : Int) = nth ws q := wordF_nat ws q hin
        by_cases hv2 : nth ws q % 2 = 0
        · have := F_look_even o hb ws ow q fi wo de tries v rec had steps sq nn w0 w ho hr hi hf hv hl0 ne hin hv2
          rw [show fStep ⟨ow, q, fi, wo, de⟩ rec tries ⟨0, 0, had, steps, sq, nn⟩ ws = (⟨0, 1, had, steps + 1, nth ws q, nn⟩, ws) from by simp [fStep, wStep, hiw.2 hin, hwq, hv2]]
          exact this
        · have := F_look_odd o hb ws ow q fi wo de tries v rec had steps sq nn w0 w ho hr hi hf hv hl0 ne hin (by omega)
          rw [show fStep ⟨ow, q, fi, wo, de⟩ rec tries ⟨0, 0, had, steps, sq, nn⟩ ws = (WS.again tries ⟨0, 0, had, steps, nth ws q, nn⟩, ws) from by simp [fStep, wStep, hiw.2 hin, hwq, hv2]]
          exact this
      · have := F_out0 o hb ws ow q fi wo de tries v rec had steps sq nn w0 w ho hr hi hf hv hl0 ne (by omega)
        rw [show fStep ⟨ow, q, fi, wo, de⟩ rec tries ⟨0, 0, had, steps, sq, nn⟩ ws = (⟨3, 0, had, steps, sq, nn⟩, ws) from by
          unfold fStep; rw [if_pos ⟨rfl, rfl, fun h => hin (hiw.1 h)⟩]]
        exact this
    · by_cases hin : q < ws.length
      · have hwq : wordF ws (q : Int) = nth ws q := wordF_nat ws q hin
        by_cases hv2 : nth ws q = sq
        · have := F_take_hit o hb ws ow q fi wo de tries v rec had steps sq nn w0 w ho hr hi hf hv hl0 ne hin hv2
          rw [show fStep ⟨ow, q, fi, wo, de⟩ rec tries ⟨0, 1, had, steps, sq, nn⟩ ws = (⟨0, 2, had, steps + 1, sq, nn⟩, ws.set q (IntKind.u64.wrap (sq + 1))) from by simp [fStep, wStep, hiw.2 hin, hwq, hv2, casB, setF_in (hiw.2 hin)]]
          exact this
        · have := F_take_miss o hb ws ow q fi wo de tries v rec had steps sq nn w0 w ho hr hi hf hv hl0 ne hin hv2
          rw [show fStep ⟨ow, q, fi, wo, de⟩ rec tries ⟨0, 1, had, steps, sq, nn⟩ ws = (WS.again tries ⟨0, 1, had, steps, sq, nn⟩, ws) from by simp [fStep, wStep, hiw.2 hin, hwq, hv2, casB]]
          exact this
      · have := F_out1 o hb ws ow q fi wo de tries v rec had steps sq nn w0 w ho hr hi hf hv hl0 ne (by omega)
        rw [show fStep ⟨ow, q, fi, wo, de⟩ rec tries ⟨0, 1, had, steps, sq, nn⟩ ws = (⟨3, 1, had, steps, sq, nn⟩, ws) from by simp [fStep, wStep, show ¬ inW ws (q : Int) from fun h => hin (hiw.1 h)]]
        exact this
    · by_cases hin : inW ws (placeF ⟨ow, q, fi, wo, de⟩ sq nn)
      · by_cases hv2 : nn + 1 = (rec.length : Int)
        · have := F_fill_last o hb ws ow q fi wo de tries v rec had steps sq nn w0 w ho hr hi hf hv hl0 ne hin hv2
          rw [show fStep ⟨ow, q, fi, wo, de⟩ rec tries ⟨0, 2, had, steps, sq, nn⟩ ws = (⟨0, 3, had, steps + 1, sq, nn + 1⟩, ws.set (placeF ⟨ow, q, fi, wo, de⟩ sq nn).toNat (nth rec nn.toNat)) from by simp [fStep, wStep, hin, hv2, setF_in hin]]
          exact this
        · have := F_fill_more o hb ws ow q fi wo de tries v rec had steps sq nn w0 w ho hr hi hf hv hl0 ne hin hv2
          rw [show fStep ⟨ow, q, fi, wo, de⟩ rec tries ⟨0, 2, had, steps, sq, nn⟩ ws = (⟨0, 2, had, steps + 1, sq, nn + 1⟩, ws.set (placeF ⟨ow, q, fi, wo, de⟩ sq nn).toNat (nth rec nn.toNat)) from by simp [fStep, wStep, hin, hv2, setF_in hin]]
          exact this
      · have := F_fill_out o hb ws ow q fi wo de tries v rec had steps sq nn w0 w ho hr hi hf hv hl0 ne hin
        rw [show fStep ⟨ow, q, fi, wo, de⟩ rec tries ⟨0, 2, had, steps, sq, nn⟩ ws = (⟨3, 2, had, steps, sq, nn⟩, ws) from by simp [fStep, wStep, hin]]
        exact this
    · by_cases hin : q < ws.length
      · have := F_give o hb ws ow q fi wo de tries v rec had steps sq nn w0 w ho hr hi hf hv hl0 ne hin
        rw [show fStep ⟨ow, q, fi, wo, de⟩ rec tries ⟨0, 3, had, steps, sq, nn⟩ ws = (⟨1, 3, had, steps + 1, sq, nn⟩, ws.set q (IntKind.u64.wrap (sq + 2))) from by simp [fStep, wStep, hiw.2 hin, setF_in (hiw.2 hin)]]
        exact this
      · have := F_out3 o hb ws ow q fi wo de tries v rec had steps sq nn w0 w ho hr hi hf hv hl0 ne (by omega)
        rw [show fStep ⟨ow, q, fi, wo, de⟩ rec tries ⟨0, 3, had, steps, sq, nn⟩ ws = (⟨3, 3, had, steps, sq, nn⟩, ws) from by simp [fStep, wStep, show ¬ inW ws (q : Int) from fun h => hin (hiw.1 h)]]
        exact this
  · have e : fStep s rec tries x ws = (x, ws) := by
      unfold fStep
      rw [if_neg (fun h => hh h.1)]
      unfold wStep
      rw [if_pos hh]
    rw [e]
    exact (F_done o hb _ _ s tries v x w ho hh).mono fun _ _ ⟨he, hw⟩ => ⟨he, hw ▸ ho, hw ▸ hr, hw ▸ Ex.refl _ w⟩
/-- the two of them: alike but for the sequence of one that is broken -/
def Like (x y : WS) : Prop := y = x ∨ (x.how = 3 ∧ y = ⟨3, x.next, x.had, x.steps, y.sq, x.n⟩)
theorem Like.how {x y : WS} (h : Like x y) : y.how = x.how := by
  rcases h with rfl | ⟨h1, h2⟩
  · rfl
  · rw [h2, h1]
theorem Like.steps {x y : WS} (h : Like x y) : y.steps = x.steps := by
  rcases h with rfl | ⟨h1, h2⟩
  · rfl
  · rw [h2]
theorem Like.gen {x y : WS} (h : Like x y) : y.gen = x.gen := by
  rcases h with rfl | ⟨h1, h2⟩
  · rfl
  · rw [h2]; unfold WS.gen; simp [h1]
theorem Like.step {s : Spot} {rec : List Int} {tries : Int} {x y : WS} (h : Like x y) (ws : List Int) (t : Int) : Like (wStep s rec tries x ws t).1 (fStep s rec tries y ws).1 ∧ (fStep s rec tries y ws).2 = (wStep s rec tries x ws t).2.1 := by
  have key : ∀ t', (wStep s rec tries x ws t').1 = (wStep s rec tries x ws 0).1 ∧ (wStep s rec tries x ws t').2.1 = (wStep s rec tries x ws 0).2.1 := by
    intro t'
    unfold wStep
    refine ⟨?_, ?_⟩ <;> (repeat' split) <;> rfl
  rw [(key t).1, (key t).2]
  rcases h with rfl | ⟨h1, h2⟩
  · unfold fStep
    split
    · rename_i hc
      have e : wStep s rec tries y ws 0 = (⟨3, 0, y.had, y.steps, 0, y.n⟩, ws, tickF ws s.seq 0) := by
        unfold wStep
        rw [if_neg (by rw [hc.1]; simp), if_pos hc.2.1, if_neg hc.2.2]
      rw [e]
      exact ⟨.inr ⟨rfl, rfl⟩, rfl⟩
    · exact ⟨.inl rfl, rfl⟩
  · have e1 : wStep s rec tries x ws 0 = (x, ws, 0) := by unfold wStep; rw [if_pos (by omega)]
    have e2 : fStep s rec tries y ws = (y, ws) := by
      unfold fStep
      have hy : y.how = 3 := by rw [h2]
      rw [if_neg (by rw [hy]; simp)]
      unfold wStep
      rw [if_pos (by omega)]
    rw [e1, e2]
    exact ⟨.inr ⟨h1, h2⟩, rfl⟩
end Go.Proofs.Ytpfjadgcnaffgaa.Bank
