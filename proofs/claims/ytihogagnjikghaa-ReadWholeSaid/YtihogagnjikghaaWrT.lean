/-
  The branches of a publishing's step, walked. Printed by wip/tools/mkwr.py. Conditions stand at each. By an AI agent.
-/
import Derived.Test.YtihogagnjikghaaWrS
namespace Go.Proofs.Ytihogagnjikghaa.Bank
set_option linter.unusedVariables false
set_option linter.unusedSimpArgs false
open Go Go.RowKit Go.Proofs.Ytihogagnjikghaa.Base

set_option maxRecDepth 100000 in
set_option maxHeartbeats 4000000 in
theorem S_look_odd (g h o r cc : Nat) (ws : List Int) (t : Int) (s : Spot) (rec : List Int) (tries had steps sq nn : Int) (w : World) (hb : BankAt w g h ws t) (ho : OpAt w o r cc s rec tries ⟨0, 0, had, steps, sq, nn⟩) (hi : WInv s rec tries ⟨0, 0, had, steps, sq, nn⟩)
    (ne : o ≠ g ∧ o ≠ h ∧ r ≠ g ∧ r ≠ h) (hin : inW ws s.seq) (hv : wordF ws s.seq % 2 = 1) :
    Calls Try.prog 24 #[.pointer (some ⟨o, 0, none⟩), .pointer (some ⟨g, 0, none⟩)] w fun e w' => e = .returned (.int .i64 (WS.how (WS.again tries ⟨0, 0, had, steps, wordF ws s.seq, nn⟩))) ∧ BankAt w' g h (ws) (tickF ws s.seq t) ∧ OpAt w' o r cc s rec tries (WS.again tries ⟨0, 0, had, steps, wordF ws s.seq, nn⟩) ∧ Ex (fun k => k = g ∨ k = h ∨ k = o) w w' := by
  have B0 := Lib.hid ho.head
  have I0 := Lib.hid ho.row
  have K0 := Lib.hid hb
  have X0 := Lib.hid (Ex.refl (fun k => k = g ∨ k = h ∨ k = o) w)
  have HI := Lib.hid hi
  have NE := Lib.hid (show (o ≠ g ∧ o ≠ h ∧ r ≠ g ∧ r ≠ h) ∧ o ≠ r from ⟨ne, ho.ne⟩)
  unfold opCs at B0
  simp only at B0
  have HR := Lib.hid (wordF_range hb s.seq)
  have HIN := Lib.hid hin
  have HV := Lib.hid hv
  clear ho hb hi ne hin hv
  have q0 := B0.out.cell 0
  have q1 := B0.out.cell 1
  have q5 := B0.out.cell 5
  simp only [List.getElem?_toArray, List.getElem?_cons_succ, List.getElem?_cons_zero] at q0 q1 q5
  go_enter Try.func24, Try.ntmps24
  go_wp2_with fail
  refine wp_scope_ahead 2 (fun c0 HC => ?_)
  go_wp2_with fail
  refine (Load_any g h ws t s.seq w K0.out).mono ?_; rintro e w1 ⟨rfl, hb1, hx1⟩
  rw [errF_in HIN.out]
  clear q0 q1 q5
  have ee := Ex.of_ex2 (T := fun k => k = g ∨ k = h) hx1 (.inl rfl) (.inr rfl)
  have Bw1 := Lib.hid (B0.out.ex ee (by have := NE.out; omega))
  have Iw1 := Lib.hid (I0.out.ex ee (by have := NE.out; omega))
  have Xw1 := Lib.hid (X0.out.trans (ee.mono (fun k hk => hk.elim .inl (fun h => .inr (.inl h)))))
  have Kw1 := Lib.hid hb1
  clear ee hb1 hx1 B0 I0 K0 X0
  generalize hvv : wordF ws s.seq = v at *
  have HVV := Lib.hid hvv
  clear hvv
  have q10 := Bw1.out.cell 10
  simp only [List.getElem?_toArray, List.getElem?_cons_succ, List.getElem?_cons_zero] at q10
  have f10 := Bw1.out.frozen 10
  go_wp2_with fail
  refine (Held_any v _ HR.out).mono ?_; rintro e w2 ⟨rfl, rfl⟩
  clear q10 f10
  have ee := ((Ex.refl (fun k => k = o) w1).setCell (q := ⟨o, 10, none⟩) (.inl rfl) (.int .u64 v))
  have bb := (Bw1.out.set_ 10 (.int .u64 v))
  simp only [List.setIfInBounds_toArray, List.set_cons_succ, List.set_cons_zero] at bb
  have Bw3 := Lib.hid bb
  have Iw3 := Lib.hid (Iw1.out.ex ee (by have := NE.out; omega))
  have Kw3 := Lib.hid (Kw1.out.ex ee (by have := NE.out; omega) (by have := NE.out; omega))
  have Xw3 := Lib.hid (Xw1.out.trans (ee.mono (fun k hk => .inr (.inr hk))))
  clear ee bb Bw1 Iw1 Kw1 Xw1
  generalize (w1.setCell ⟨o, 10, none⟩ (.int .u64 v)) = w3 at *
  rw [show (v % 2 != 0) = true by rw [HV.out]; rfl]
  go_wp2_with fail
  refine wp_goto ?_
  show goOn Try.prog c0 _ 2 (.goto 1) _ _
  refine goOn_jump HC rfl ?_
  go_wp2_with fail
  refine (again_any o s tries r rec.length cc ⟨0, 0, had, steps, v, nn⟩ w3 Bw3.out ⟨HI.out.had.1, HI.out.had.2 rfl, HI.out.tr.2⟩).mono ?_; rintro e wa ⟨rfl, bb, ee⟩
  unfold WS.again0 opCs at bb
  simp only at bb
  have Bwa := Lib.hid bb
  have Iwa := Lib.hid (Iw3.out.ex ee (by have := NE.out; omega))
  have Kwa := Lib.hid (Kw3.out.ex ee (by have := NE.out; omega) (by have := NE.out; omega))
  have Xwa := Lib.hid (Xw3.out.trans (ee.mono (fun k hk => .inr (.inr hk))))
  clear ee bb Bw3 Iw3 Kw3 Xw3
  generalize hkk : (if had + 1 = tries then (2 : Int) else 0) = kk at *
  have HKK := Lib.hid hkk
  clear hkk
  have q0 := Bwa.out.cell 0
  have q3 := Bwa.out.cell 3
  simp only [List.getElem?_toArray, List.getElem?_cons_succ, List.getElem?_cons_zero] at q0 q3
  have f3 := Bwa.out.frozen 3
  have hst : wrap64 (steps + 1) = steps + 1 := HI.out.wst
  go_wp2_with fail
  go_step3
  go_wp2_with fail
  clear q0 q3 f3
  have ee := ((Ex.refl (fun k => k = o) wa).setCell (q := ⟨o, 3, none⟩) (.inl rfl) (.int .i64 (steps + 1)))
  have bb := (Bwa.out.set_ 3 (.int .i64 (steps + 1)))
  simp only [List.setIfInBounds_toArray, List.set_cons_succ, List.set_cons_zero] at bb
  have Bwz := Lib.hid bb
  have Iwz := Lib.hid (Iwa.out.ex ee (by have := NE.out; omega))
  have Kwz := Lib.hid (Kwa.out.ex ee (by have := NE.out; omega) (by have := NE.out; omega))
  have Xwz := Lib.hid (Xwa.out.trans (ee.mono (fun k hk => .inr (.inr hk))))
  clear ee bb Bwa Iwa Kwa Xwa
  first | rw [goOn_ret] | skip
  go_ret
  rw [HVV.out]
  have hkk := HKK.out
  subst hkk
  exact ⟨rfl, Kwz.out, ⟨Bwz.out, Iwz.out, NE.out.2⟩, Xwz.out⟩

set_option maxRecDepth 100000 in
set_option maxHeartbeats 4000000 in
theorem S_look_even (g h o r cc : Nat) (ws : List Int) (t : Int) (s : Spot) (rec : List Int) (tries had steps sq nn : Int) (w : World) (hb : BankAt w g h ws t) (ho : OpAt w o r cc s rec tries ⟨0, 0, had, steps, sq, nn⟩) (hi : WInv s rec tries ⟨0, 0, had, steps, sq, nn⟩)
    (ne : o ≠ g ∧ o ≠ h ∧ r ≠ g ∧ r ≠ h) (hin : inW ws s.seq) (hv : wordF ws s.seq % 2 = 0) :
    Calls Try.prog 24 #[.pointer (some ⟨o, 0, none⟩), .pointer (some ⟨g, 0, none⟩)] w fun e w' => e = .returned (.int .i64 (WS.how ⟨0, 1, had, steps + 1, wordF ws s.seq, nn⟩)) ∧ BankAt w' g h (ws) (tickF ws s.seq t) ∧ OpAt w' o r cc s rec tries ⟨0, 1, had, steps + 1, wordF ws s.seq, nn⟩ ∧ Ex (fun k => k = g ∨ k = h ∨ k = o) w w' := by
  have B0 := Lib.hid ho.head
  have I0 := Lib.hid ho.row
  have K0 := Lib.hid hb
  have X0 := Lib.hid (Ex.refl (fun k => k = g ∨ k = h ∨ k = o) w)
  have HI := Lib.hid hi
  have NE := Lib.hid (show (o ≠ g ∧ o ≠ h ∧ r ≠ g ∧ r ≠ h) ∧ o ≠ r from ⟨ne, ho.ne⟩)
  unfold opCs at B0
  simp only at B0
  have HR := Lib.hid (wordF_range hb s.seq)
  have HIN := Lib.hid hin
  have HV := Lib.hid hv
  clear ho hb hi ne hin hv
  have q0 := B0.out.cell 0
  have q1 := B0.out.cell 1
  have q5 := B0.out.cell 5
  simp only [List.getElem?_toArray, List.getElem?_cons_succ, List.getElem?_cons_zero] at q0 q1 q5
  go_enter Try.func24, Try.ntmps24
  go_wp2_with fail
  refine wp_scope_ahead 2 (fun c0 HC => ?_)
  go_wp2_with fail
  refine (Load_any g h ws t s.seq w K0.out).mono ?_; rintro e w1 ⟨rfl, hb1, hx1⟩
  rw [errF_in HIN.out]
  clear q0 q1 q5
  have ee := Ex.of_ex2 (T := fun k => k = g ∨ k = h) hx1 (.inl rfl) (.inr rfl)
  have Bw1 := Lib.hid (B0.out.ex ee (by have := NE.out; omega))
  have Iw1 := Lib.hid (I0.out.ex ee (by have := NE.out; omega))
  have Xw1 := Lib.hid (X0.out.trans (ee.mono (fun k hk => hk.elim .inl (fun h => .inr (.inl h)))))
  have Kw1 := Lib.hid hb1
  clear ee hb1 hx1 B0 I0 K0 X0
  generalize hvv : wordF ws s.seq = v at *
  have HVV := Lib.hid hvv
  clear hvv
  have q10 := Bw1.out.cell 10
  simp only [List.getElem?_toArray, List.getElem?_cons_succ, List.getElem?_cons_zero] at q10
  have f10 := Bw1.out.frozen 10
  go_wp2_with fail
  refine (Held_any v _ HR.out).mono ?_; rintro e w2 ⟨rfl, rfl⟩
  clear q10 f10
  have ee := ((Ex.refl (fun k => k = o) w1).setCell (q := ⟨o, 10, none⟩) (.inl rfl) (.int .u64 v))
  have bb := (Bw1.out.set_ 10 (.int .u64 v))
  simp only [List.setIfInBounds_toArray, List.set_cons_succ, List.set_cons_zero] at bb
  have Bw3 := Lib.hid bb
  have Iw3 := Lib.hid (Iw1.out.ex ee (by have := NE.out; omega))
  have Kw3 := Lib.hid (Kw1.out.ex ee (by have := NE.out; omega) (by have := NE.out; omega))
  have Xw3 := Lib.hid (Xw1.out.trans (ee.mono (fun k hk => .inr (.inr hk))))
  clear ee bb Bw1 Iw1 Kw1 Xw1
  generalize (w1.setCell ⟨o, 10, none⟩ (.int .u64 v)) = w3 at *
  rw [show (v % 2 != 0) = false by rw [HV.out]; rfl]
  have q0 := Bw3.out.cell 0
  have q1 := Bw3.out.cell 1
  have q3 := Bw3.out.cell 3
  simp only [List.getElem?_toArray, List.getElem?_cons_succ, List.getElem?_cons_zero] at q0 q1 q3
  have f1 := Bw3.out.frozen 1
  have f3 := Bw3.out.frozen 3
  have hst : wrap64 (steps + 1) = steps + 1 := HI.out.wst
  go_wp2_with fail
  refine wp_goto ?_
  show goOn Try.prog c0 _ 2 (.goto 2) _ _
  refine goOn_jump HC rfl ?_
  go_wp2_with fail
  clear q0 q1 q3 f1 f3
  have ee := (((Ex.refl (fun k => k = o) w3).setCell (q := ⟨o, 1, none⟩) (.inl rfl) (.int .i64 1)).setCell (q := ⟨o, 3, none⟩) (.inl rfl) (.int .i64 (steps + 1)))
  have bb := ((Bw3.out.set_ 1 (.int .i64 1)).set_ 3 (.int .i64 (steps + 1)))
  simp only [List.setIfInBounds_toArray, List.set_cons_succ, List.set_cons_zero] at bb
  have Bwz := Lib.hid bb
  have Iwz := Lib.hid (Iw3.out.ex ee (by have := NE.out; omega))
  have Kwz := Lib.hid (Kw3.out.ex ee (by have := NE.out; omega) (by have := NE.out; omega))
  have Xwz := Lib.hid (Xw3.out.trans (ee.mono (fun k hk => .inr (.inr hk))))
  clear ee bb Bw3 Iw3 Kw3 Xw3
  first | rw [goOn_ret] | skip
  go_ret
  rw [HVV.out]
  exact ⟨rfl, Kwz.out, ⟨Bwz.out, Iwz.out, NE.out.2⟩, Xwz.out⟩

set_option maxRecDepth 100000 in
set_option maxHeartbeats 4000000 in
theorem S_look_out (g h o r cc : Nat) (ws : List Int) (t : Int) (s : Spot) (rec : List Int) (tries had steps sq nn : Int) (w : World) (hb : BankAt w g h ws t) (ho : OpAt w o r cc s rec tries ⟨0, 0, had, steps, sq, nn⟩) (hi : WInv s rec tries ⟨0, 0, had, steps, sq, nn⟩)
    (ne : o ≠ g ∧ o ≠ h ∧ r ≠ g ∧ r ≠ h) (hin : ¬ inW ws s.seq) :
    Calls Try.prog 24 #[.pointer (some ⟨o, 0, none⟩), .pointer (some ⟨g, 0, none⟩)] w fun e w' => e = .returned (.int .i64 (WS.how ⟨3, 0, had, steps, 0, nn⟩)) ∧ BankAt w' g h (ws) (tickF ws s.seq t) ∧ OpAt w' o r cc s rec tries ⟨3, 0, had, steps, 0, nn⟩ ∧ Ex (fun k => k = g ∨ k = h ∨ k = o) w w' := by
  have B0 := Lib.hid ho.head
  have I0 := Lib.hid ho.row
  have K0 := Lib.hid hb
  have X0 := Lib.hid (Ex.refl (fun k => k = g ∨ k = h ∨ k = o) w)
  have HI := Lib.hid hi
  have NE := Lib.hid (show (o ≠ g ∧ o ≠ h ∧ r ≠ g ∧ r ≠ h) ∧ o ≠ r from ⟨ne, ho.ne⟩)
  unfold opCs at B0
  simp only at B0
  have HR := Lib.hid (wordF_range hb s.seq)
  have HIN := Lib.hid hin
  clear ho hb hi ne hin
  have q0 := B0.out.cell 0
  have q1 := B0.out.cell 1
  have q5 := B0.out.cell 5
  simp only [List.getElem?_toArray, List.getElem?_cons_succ, List.getElem?_cons_zero] at q0 q1 q5
  go_enter Try.func24, Try.ntmps24
  go_wp2_with fail
  refine wp_scope_ahead 2 (fun c0 HC => ?_)
  go_wp2_with fail
  refine (Load_any g h ws t s.seq w K0.out).mono ?_; rintro e w1 ⟨rfl, hb1, hx1⟩
  rw [errF_out HIN.out, wordF_out HIN.out]
  clear q0 q1 q5
  have ee := Ex.of_ex2 (T := fun k => k = g ∨ k = h) hx1 (.inl rfl) (.inr rfl)
  have Bw1 := Lib.hid (B0.out.ex ee (by have := NE.out; omega))
  have Iw1 := Lib.hid (I0.out.ex ee (by have := NE.out; omega))
  have Xw1 := Lib.hid (X0.out.trans (ee.mono (fun k hk => hk.elim .inl (fun h => .inr (.inl h)))))
  have Kw1 := Lib.hid hb1
  clear ee hb1 hx1 B0 I0 K0 X0
  have q10 := Bw1.out.cell 10
  have q0 := Bw1.out.cell 0
  simp only [List.getElem?_toArray, List.getElem?_cons_succ, List.getElem?_cons_zero] at q10 q0
  have f10 := Bw1.out.frozen 10
  have f0 := Bw1.out.frozen 0
  go_wp2_with fail
  refine wp_goto ?_
  show goOn Try.prog c0 _ 2 (.goto 0) _ _
  refine goOn_jump HC rfl ?_
  go_wp2_with fail
  clear q10 q0 f10 f0
  have ee := (((Ex.refl (fun k => k = o) w1).setCell (q := ⟨o, 10, none⟩) (.inl rfl) (.int .u64 0)).setCell (q := ⟨o, 0, none⟩) (.inl rfl) (.int .i64 3))
  have bb := ((Bw1.out.set_ 10 (.int .u64 0)).set_ 0 (.int .i64 3))
  simp only [List.setIfInBounds_toArray, List.set_cons_succ, List.set_cons_zero] at bb
  have Bwz := Lib.hid bb
  have Iwz := Lib.hid (Iw1.out.ex ee (by have := NE.out; omega))
  have Kwz := Lib.hid (Kw1.out.ex ee (by have := NE.out; omega) (by have := NE.out; omega))
  have Xwz := Lib.hid (Xw1.out.trans (ee.mono (fun k hk => .inr (.inr hk))))
  clear ee bb Bw1 Iw1 Kw1 Xw1
  first | rw [goOn_ret] | skip
  go_ret
  exact ⟨rfl, Kwz.out, ⟨Bwz.out, Iwz.out, NE.out.2⟩, Xwz.out⟩

set_option maxRecDepth 100000 in
set_option maxHeartbeats 4000000 in
theorem S_take_out (g h o r cc : Nat) (ws : List Int) (t : Int) (s : Spot) (rec : List Int) (tries had steps sq nn : Int) (w : World) (hb : BankAt w g h ws t) (ho : OpAt w o r cc s rec tries ⟨0, 1, had, steps, sq, nn⟩) (hi : WInv s rec tries ⟨0, 1, had, steps, sq, nn⟩)
    (ne : o ≠ g ∧ o ≠ h ∧ r ≠ g ∧ r ≠ h) (hin : ¬ inW ws s.seq) :
    Calls Try.prog 24 #[.pointer (some ⟨o, 0, none⟩), .pointer (some ⟨g, 0, none⟩)] w fun e w' => e = .returned (.int .i64 (WS.how ⟨3, 1, had, steps, sq, nn⟩)) ∧ BankAt w' g h (ws) (tickF ws s.seq t) ∧ OpAt w' o r cc s rec tries ⟨3, 1, had, steps, sq, nn⟩ ∧ Ex (fun k => k = g ∨ k = h ∨ k = o) w w' := by
  have B0 := Lib.hid ho.head
  have I0 := Lib.hid ho.row
  have K0 := Lib.hid hb
  have X0 := Lib.hid (Ex.refl (fun k => k = g ∨ k = h ∨ k = o) w)
  have HI := Lib.hid hi
  have NE := Lib.hid (show (o ≠ g ∧ o ≠ h ∧ r ≠ g ∧ r ≠ h) ∧ o ≠ r from ⟨ne, ho.ne⟩)
  unfold opCs at B0
  simp only at B0
  have HC2 := Lib.hid (CAS_any g h ws t s.seq sq (IntKind.u64.wrap (sq + 1)) w.drew (hb.drewN 1) (u64_wrap_range _))
  have HIN := Lib.hid hin
  clear ho hb hi ne hin
  have q0 := B0.out.cell 0
  have q1 := B0.out.cell 1
  simp only [List.getElem?_toArray, List.getElem?_cons_succ, List.getElem?_cons_zero] at q0 q1
  go_enter Try.func24, Try.ntmps24
  go_wp2_with fail
  refine wp_scope_ahead 2 (fun c0 HC => ?_)
  go_upto_region 17 with fail
  clear q0 q1
  have hnonempty : Nonempty (Held (Ex (fun k => k = g ∨ k = h) w)) := ⟨⟨w, Ex.refl _ w⟩⟩
  have p0 : ∀ x : Held (Ex (fun k => k = g ∨ k = h) w), x.w.cell? ⟨o, 0, none⟩ = some (.int .i64 0) := fun x => (B0.out.ex x.ok (by have := NE.out; omega)).cell 0
  have p5 : ∀ x : Held (Ex (fun k => k = g ∨ k = h) w), x.w.cell? ⟨o, 5, none⟩ = some (.int .i64 s.seq) := fun x => (B0.out.ex x.ok (by have := NE.out; omega)).cell 5
  have p10 : ∀ x : Held (Ex (fun k => k = g ∨ k = h) w), x.w.cell? ⟨o, 10, none⟩ = some (.int .u64 sq) := fun x => (B0.out.ex x.ok (by have := NE.out; omega)).cell 10
  refine drawn_bars (S := (Ex (fun k => k = g ∨ k = h) w)) [([0, 1, 2, 3, 4, 5, 6, 7, 8, 9, 10, 11, 12, 13, 14], 15)] [16, 17, 18, 19, 20] (by kernel_rfl) (by kernel_rfl) (by kernel_rfl) rfl (Ex.refl _ w).drew ?_
  refine Phased.go ?_
  simp only [pick, List.map_cons, List.map_nil, List.getElem?_cons_zero, List.getElem?_cons_succ, Option.getD_some]
  repeat (go_big_quiet_step (fail))
  refine wpQuiet_nil ?_
  go_wp2_with fail
  refine HC2.out.mono ?_; rintro e w1 ⟨rfl, hb1, hx1⟩
  have XR := Lib.hid ((Ex.of_ex2 (T := fun k => k = g ∨ k = h) hx1 (.inl rfl) (.inr rfl)).undrew)
  rw [errF_out HIN.out, casB_out HIN.out]
  rw [casB_out HIN.out, setF_out HIN.out] at hb1
  simp only [if_true, Bool.false_eq_true, if_false] at hb1
  go_wp2_with fail
  refine behind_normal ⟨(Ex (fun k => k = g ∨ k = h) w), fun W h => h, XR.out, ?_⟩
  refine Phased.end_ ?_
  have hne1 : Nonempty (Held (fun W => W = w1)) := ⟨⟨w1, rfl⟩⟩
  simp only [pick, List.map_cons, List.map_nil, List.getElem?_cons_zero, List.getElem?_cons_succ, Option.getD_some]
  repeat (go_big_quiet_step (fail))
  refine wpQuiet_nil ?_
  clear hne1
  have hx2 := hx1.undrew
  clear hnonempty p0 p5 p10
  have ee := Ex.of_ex2 (T := fun k => k = g ∨ k = h) hx2 (.inl rfl) (.inr rfl)
  have Bw1 := Lib.hid (B0.out.ex ee (by have := NE.out; omega))
  have Iw1 := Lib.hid (I0.out.ex ee (by have := NE.out; omega))
  have Xw1 := Lib.hid (X0.out.trans (ee.mono (fun k hk => hk.elim .inl (fun h => .inr (.inl h)))))
  have Kw1 := Lib.hid hb1
  clear ee hb1 hx2 B0 I0 K0 X0
  clear hx1 XR HC2
  have q0 := Bw1.out.cell 0
  simp only [List.getElem?_toArray, List.getElem?_cons_succ, List.getElem?_cons_zero] at q0
  have f0 := Bw1.out.frozen 0
  go_wp2_with fail
  refine wp_goto ?_
  show goOn Try.prog c0 _ 2 (.goto 0) _ _
  refine goOn_jump HC rfl ?_
  go_wp2_with fail
  clear q0 f0
  have ee := ((Ex.refl (fun k => k = o) w1).setCell (q := ⟨o, 0, none⟩) (.inl rfl) (.int .i64 3))
  have bb := (Bw1.out.set_ 0 (.int .i64 3))
  simp only [List.setIfInBounds_toArray, List.set_cons_succ, List.set_cons_zero] at bb
  have Bwz := Lib.hid bb
  have Iwz := Lib.hid (Iw1.out.ex ee (by have := NE.out; omega))
  have Kwz := Lib.hid (Kw1.out.ex ee (by have := NE.out; omega) (by have := NE.out; omega))
  have Xwz := Lib.hid (Xw1.out.trans (ee.mono (fun k hk => .inr (.inr hk))))
  clear ee bb Bw1 Iw1 Kw1 Xw1
  first | rw [goOn_ret] | skip
  go_ret
  exact ⟨rfl, Kwz.out, ⟨Bwz.out, Iwz.out, NE.out.2⟩, Xwz.out⟩

set_option maxRecDepth 100000 in
set_option maxHeartbeats 4000000 in
theorem S_take_miss (g h o r cc : Nat) (ws : List Int) (t : Int) (s : Spot) (rec : List Int) (tries had steps sq nn : Int) (w : World) (hb : BankAt w g h ws t) (ho : OpAt w o r cc s rec tries ⟨0, 1, had, steps, sq, nn⟩) (hi : WInv s rec tries ⟨0, 1, had, steps, sq, nn⟩)
    (ne : o ≠ g ∧ o ≠ h ∧ r ≠ g ∧ r ≠ h) (hin : inW ws s.seq) (hv : casB ws s.seq sq = false) :
    Calls Try.prog 24 #[.pointer (some ⟨o, 0, none⟩), .pointer (some ⟨g, 0, none⟩)] w fun e w' => e = .returned (.int .i64 (WS.how (WS.again tries ⟨0, 1, had, steps, sq, nn⟩))) ∧ BankAt w' g h (ws) (tickF ws s.seq t) ∧ OpAt w' o r cc s rec tries (WS.again tries ⟨0, 1, had, steps, sq, nn⟩) ∧ Ex (fun k => k = g ∨ k = h ∨ k = o) w w' := by
  have B0 := Lib.hid ho.head
  have I0 := Lib.hid ho.row
  have K0 := Lib.hid hb
  have X0 := Lib.hid (Ex.refl (fun k => k = g ∨ k = h ∨ k = o) w)
  have HI := Lib.hid hi
  have NE := Lib.hid (show (o ≠ g ∧ o ≠ h ∧ r ≠ g ∧ r ≠ h) ∧ o ≠ r from ⟨ne, ho.ne⟩)
  unfold opCs at B0
  simp only at B0
  have HC2 := Lib.hid (CAS_any g h ws t s.seq sq (IntKind.u64.wrap (sq + 1)) w.drew (hb.drewN 1) (u64_wrap_range _))
  have HIN := Lib.hid hin
  have HV := Lib.hid hv
  clear ho hb hi ne hin hv
  have q0 := B0.out.cell 0
  have q1 := B0.out.cell 1
  simp only [List.getElem?_toArray, List.getElem?_cons_succ, List.getElem?_cons_zero] at q0 q1
  go_enter Try.func24, Try.ntmps24
  go_wp2_with fail
  refine wp_scope_ahead 2 (fun c0 HC => ?_)
  go_upto_region 17 with fail
  clear q0 q1
  have hnonempty : Nonempty (Held (Ex (fun k => k = g ∨ k = h) w)) := ⟨⟨w, Ex.refl _ w⟩⟩
  have p0 : ∀ x : Held (Ex (fun k => k = g ∨ k = h) w), x.w.cell? ⟨o, 0, none⟩ = some (.int .i64 0) := fun x => (B0.out.ex x.ok (by have := NE.out; omega)).cell 0
  have p5 : ∀ x : Held (Ex (fun k => k = g ∨ k = h) w), x.w.cell? ⟨o, 5, none⟩ = some (.int .i64 s.seq) := fun x => (B0.out.ex x.ok (by have := NE.out; omega)).cell 5
  have p10 : ∀ x : Held (Ex (fun k => k = g ∨ k = h) w), x.w.cell? ⟨o, 10, none⟩ = some (.int .u64 sq) := fun x => (B0.out.ex x.ok (by have := NE.out; omega)).cell 10
  refine drawn_bars (S := (Ex (fun k => k = g ∨ k = h) w)) [([0, 1, 2, 3, 4, 5, 6, 7, 8, 9, 10, 11, 12, 13, 14], 15)] [16, 17, 18, 19, 20] (by kernel_rfl) (by kernel_rfl) (by kernel_rfl) rfl (Ex.refl _ w).drew ?_
  refine Phased.go ?_
  simp only [pick, List.map_cons, List.map_nil, List.getElem?_cons_zero, List.getElem?_cons_succ, Option.getD_some]
  repeat (go_big_quiet_step (fail))
  refine wpQuiet_nil ?_
  go_wp2_with fail
  refine HC2.out.mono ?_; rintro e w1 ⟨rfl, hb1, hx1⟩
  have XR := Lib.hid ((Ex.of_ex2 (T := fun k => k = g ∨ k = h) hx1 (.inl rfl) (.inr rfl)).undrew)
  rw [errF_in HIN.out, HV.out]
  rw [HV.out] at hb1
  simp only [if_true, Bool.false_eq_true, if_false] at hb1
  go_wp2_with fail
  refine behind_normal ⟨(Ex (fun k => k = g ∨ k = h) w), fun W h => h, XR.out, ?_⟩
  refine Phased.end_ ?_
  have hne1 : Nonempty (Held (fun W => W = w1)) := ⟨⟨w1, rfl⟩⟩
  simp only [pick, List.map_cons, List.map_nil, List.getElem?_cons_zero, List.getElem?_cons_succ, Option.getD_some]
  repeat (go_big_quiet_step (fail))
  refine wpQuiet_nil ?_
  clear hne1
  have hx2 := hx1.undrew
  clear hnonempty p0 p5 p10
  have ee := Ex.of_ex2 (T := fun k => k = g ∨ k = h) hx2 (.inl rfl) (.inr rfl)
  have Bw1 := Lib.hid (B0.out.ex ee (by have := NE.out; omega))
  have Iw1 := Lib.hid (I0.out.ex ee (by have := NE.out; omega))
  have Xw1 := Lib.hid (X0.out.trans (ee.mono (fun k hk => hk.elim .inl (fun h => .inr (.inl h)))))
  have Kw1 := Lib.hid hb1
  clear ee hb1 hx2 B0 I0 K0 X0
  clear hx1 XR HC2
  go_wp2_with fail
  refine wp_goto ?_
  show goOn Try.prog c0 _ 2 (.goto 1) _ _
  refine goOn_jump HC rfl ?_
  go_wp2_with fail
  refine (again_any o s tries r rec.length cc ⟨0, 1, had, steps, sq, nn⟩ w1 Bw1.out ⟨HI.out.had.1, HI.out.had.2 rfl, HI.out.tr.2⟩).mono ?_; rintro e wa ⟨rfl, bb, ee⟩
  unfold WS.again0 opCs at bb
  simp only at bb
  have Bwa := Lib.hid bb
  have Iwa := Lib.hid (Iw1.out.ex ee (by have := NE.out; omega))
  have Kwa := Lib.hid (Kw1.out.ex ee (by have := NE.out; omega) (by have := NE.out; omega))
  have Xwa := Lib.hid (Xw1.out.trans (ee.mono (fun k hk => .inr (.inr hk))))
  clear ee bb Bw1 Iw1 Kw1 Xw1
  generalize hkk : (if had + 1 = tries then (2 : Int) else 0) = kk at *
  have HKK := Lib.hid hkk
  clear hkk
  have q0 := Bwa.out.cell 0
  have q3 := Bwa.out.cell 3
  simp only [List.getElem?_toArray, List.getElem?_cons_succ, List.getElem?_cons_zero] at q0 q3
  have f3 := Bwa.out.frozen 3
  have hst : wrap64 (steps + 1) = steps + 1 := HI.out.wst
  go_wp2_with fail
  go_step3
  go_wp2_with fail
  clear q0 q3 f3
  have ee := ((Ex.refl (fun k => k = o) wa).setCell (q := ⟨o, 3, none⟩) (.inl rfl) (.int .i64 (steps + 1)))
  have bb := (Bwa.out.set_ 3 (.int .i64 (steps + 1)))
  simp only [List.setIfInBounds_toArray, List.set_cons_succ, List.set_cons_zero] at bb
  have Bwz := Lib.hid bb
  have Iwz := Lib.hid (Iwa.out.ex ee (by have := NE.out; omega))
  have Kwz := Lib.hid (Kwa.out.ex ee (by have := NE.out; omega) (by have := NE.out; omega))
  have Xwz := Lib.hid (Xwa.out.trans (ee.mono (fun k hk => .inr (.inr hk))))
  clear ee bb Bwa Iwa Kwa Xwa
  first | rw [goOn_ret] | skip
  go_ret
  have hkk := HKK.out
  subst hkk
  exact ⟨rfl, Kwz.out, ⟨Bwz.out, Iwz.out, NE.out.2⟩, Xwz.out⟩

set_option maxRecDepth 100000 in
set_option maxHeartbeats 4000000 in
theorem S_take_hit (g h o r cc : Nat) (ws : List Int) (t : Int) (s : Spot) (rec : List Int) (tries had steps sq nn : Int) (w : World) (hb : BankAt w g h ws t) (ho : OpAt w o r cc s rec tries ⟨0, 1, had, steps, sq, nn⟩) (hi : WInv s rec tries ⟨0, 1, had, steps, sq, nn⟩)
    (ne : o ≠ g ∧ o ≠ h ∧ r ≠ g ∧ r ≠ h) (hin : inW ws s.seq) (hv : casB ws s.seq sq = true) :
    Calls Try.prog 24 #[.pointer (some ⟨o, 0, none⟩), .pointer (some ⟨g, 0, none⟩)] w fun e w' => e = .returned (.int .i64 (WS.how ⟨0, 2, had, steps + 1, sq, nn⟩)) ∧ BankAt w' g h (setF ws s.seq (IntKind.u64.wrap (sq + 1))) (tickF ws s.seq t) ∧ OpAt w' o r cc s rec tries ⟨0, 2, had, steps + 1, sq, nn⟩ ∧ Ex (fun k => k = g ∨ k = h ∨ k = o) w w' := by
  have B0 := Lib.hid ho.head
  have I0 := Lib.hid ho.row
  have K0 := Lib.hid hb
  have X0 := Lib.hid (Ex.refl (fun k => k = g ∨ k = h ∨ k = o) w)
  have HI := Lib.hid hi
  have NE := Lib.hid (show (o ≠ g ∧ o ≠ h ∧ r ≠ g ∧ r ≠ h) ∧ o ≠ r from ⟨ne, ho.ne⟩)
  unfold opCs at B0
  simp only at B0
  have HC2 := Lib.hid (CAS_any g h ws t s.seq sq (IntKind.u64.wrap (sq + 1)) w.drew (hb.drewN 1) (u64_wrap_range _))
  have HIN := Lib.hid hin
  have HV := Lib.hid hv
  clear ho hb hi ne hin hv
  have q0 := B0.out.cell 0
  have q1 := B0.out.cell 1
  simp only [List.getElem?_toArray, List.getElem?_cons_succ, List.getElem?_cons_zero] at q0 q1
  go_enter Try.func24, Try.ntmps24
  go_wp2_with fail
  refine wp_scope_ahead 2 (fun c0 HC => ?_)
  go_upto_region 17 with fail
  clear q0 q1
  have hnonempty : Nonempty (Held (Ex (fun k => k = g ∨ k = h) w)) := ⟨⟨w, Ex.refl _ w⟩⟩
  have p0 : ∀ x : Held (Ex (fun k => k = g ∨ k = h) w), x.w.cell? ⟨o, 0, none⟩ = some (.int .i64 0) := fun x => (B0.out.ex x.ok (by have := NE.out; omega)).cell 0
  have p5 : ∀ x : Held (Ex (fun k => k = g ∨ k = h) w), x.w.cell? ⟨o, 5, none⟩ = some (.int .i64 s.seq) := fun x => (B0.out.ex x.ok (by have := NE.out; omega)).cell 5
  have p10 : ∀ x : Held (Ex (fun k => k = g ∨ k = h) w), x.w.cell? ⟨o, 10, none⟩ = some (.int .u64 sq) := fun x => (B0.out.ex x.ok (by have := NE.out; omega)).cell 10
  refine drawn_bars (S := (Ex (fun k => k = g ∨ k = h) w)) [([0, 1, 2, 3, 4, 5, 6, 7, 8, 9, 10, 11, 12, 13, 14], 15)] [16, 17, 18, 19, 20] (by kernel_rfl) (by kernel_rfl) (by kernel_rfl) rfl (Ex.refl _ w).drew ?_
  refine Phased.go ?_
  simp only [pick, List.map_cons, List.map_nil, List.getElem?_cons_zero, List.getElem?_cons_succ, Option.getD_some]
  repeat (go_big_quiet_step (fail))
  refine wpQuiet_nil ?_
  go_wp2_with fail
  refine HC2.out.mono ?_; rintro e w1 ⟨rfl, hb1, hx1⟩
  have XR := Lib.hid ((Ex.of_ex2 (T := fun k => k = g ∨ k = h) hx1 (.inl rfl) (.inr rfl)).undrew)
  rw [errF_in HIN.out, HV.out]
  rw [HV.out] at hb1
  simp only [if_true, Bool.false_eq_true, if_false] at hb1
  go_wp2_with fail
  refine behind_normal ⟨(Ex (fun k => k = g ∨ k = h) w), fun W h => h, XR.out, ?_⟩
  refine Phased.end_ ?_
  have hne1 : Nonempty (Held (fun W => W = w1)) := ⟨⟨w1, rfl⟩⟩
  simp only [pick, List.map_cons, List.map_nil, List.getElem?_cons_zero, List.getElem?_cons_succ, Option.getD_some]
  repeat (go_big_quiet_step (fail))
  refine wpQuiet_nil ?_
  clear hne1
  have hx2 := hx1.undrew
  clear hnonempty p0 p5 p10
  have ee := Ex.of_ex2 (T := fun k => k = g ∨ k = h) hx2 (.inl rfl) (.inr rfl)
  have Bw1 := Lib.hid (B0.out.ex ee (by have := NE.out; omega))
  have Iw1 := Lib.hid (I0.out.ex ee (by have := NE.out; omega))
  have Xw1 := Lib.hid (X0.out.trans (ee.mono (fun k hk => hk.elim .inl (fun h => .inr (.inl h)))))
  have Kw1 := Lib.hid hb1
  clear ee hb1 hx2 B0 I0 K0 X0
  clear hx1 XR HC2
  have q0 := Bw1.out.cell 0
  have q1 := Bw1.out.cell 1
  have q3 := Bw1.out.cell 3
  simp only [List.getElem?_toArray, List.getElem?_cons_succ, List.getElem?_cons_zero] at q0 q1 q3
  have f1 := Bw1.out.frozen 1
  have f3 := Bw1.out.frozen 3
  have hst : wrap64 (steps + 1) = steps + 1 := HI.out.wst
  go_wp2_with fail
  refine wp_goto ?_
  show goOn Try.prog c0 _ 2 (.goto 2) _ _
  refine goOn_jump HC rfl ?_
  go_wp2_with fail
  clear q0 q1 q3 f1 f3
  have ee := (((Ex.refl (fun k => k = o) w1).setCell (q := ⟨o, 1, none⟩) (.inl rfl) (.int .i64 2)).setCell (q := ⟨o, 3, none⟩) (.inl rfl) (.int .i64 (steps + 1)))
  have bb := ((Bw1.out.set_ 1 (.int .i64 2)).set_ 3 (.int .i64 (steps + 1)))
  simp only [List.setIfInBounds_toArray, List.set_cons_succ, List.set_cons_zero] at bb
  have Bwz := Lib.hid bb
  have Iwz := Lib.hid (Iw1.out.ex ee (by have := NE.out; omega))
  have Kwz := Lib.hid (Kw1.out.ex ee (by have := NE.out; omega) (by have := NE.out; omega))
  have Xwz := Lib.hid (Xw1.out.trans (ee.mono (fun k hk => .inr (.inr hk))))
  clear ee bb Bw1 Iw1 Kw1 Xw1
  first | rw [goOn_ret] | skip
  go_ret
  exact ⟨rfl, Kwz.out, ⟨Bwz.out, Iwz.out, NE.out.2⟩, Xwz.out⟩

end Go.Proofs.Ytihogagnjikghaa.Bank
