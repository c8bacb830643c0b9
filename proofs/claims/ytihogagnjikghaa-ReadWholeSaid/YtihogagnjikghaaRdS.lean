/-
  The branches of a reading's step, walked. Printed by wip/tools/mkrd.py. Conditions stand at each. By an AI agent.
-/
import Derived.Test.YtihogagnjikghaaRdN
namespace Go.Proofs.Ytihogagnjikghaa.Bank
set_option linter.unusedVariables false
set_option linter.unusedSimpArgs false
open Go Go.RowKit Go.Proofs.Ytihogagnjikghaa.Base

set_option maxRecDepth 100000 in
set_option maxHeartbeats 4000000 in
theorem R_out0 (g h o r : Nat) (ws : List Int) (t : Int) (s : Spot) (tries had gen nn begun steps : Int) (got : List Int) (w : World) (hb : BankAt w g h ws t) (ho : RdAt w o r s tries ⟨0, 0, had, gen, nn, begun, steps⟩ got) (hi : RInv s tries ⟨0, 0, had, gen, nn, begun, steps⟩ got)
    (ne : o ≠ g ∧ o ≠ h ∧ r ≠ g ∧ r ≠ h) (hin : ¬ inW ws (s.seq)) :
    Calls Try.prog 16 #[.pointer (some ⟨o, 0, none⟩), .pointer (some ⟨g, 0, none⟩)] w fun e w' => e = .returned (.int .i64 (RS.how ⟨3, 0, had, gen, nn, begun, steps⟩)) ∧ BankAt w' g h ws (tickF ws (s.seq) t) ∧ RdAt w' o r s tries ⟨3, 0, had, gen, nn, begun, steps⟩ (got) ∧ Ex (fun k => k = g ∨ k = h ∨ k = o ∨ k = r) w w' := by
  have B0 := Lib.hid ho.head
  have R0 := Lib.hid ho.row
  have K0 := Lib.hid hb
  have X0 := Lib.hid (Ex.refl (fun k => k = g ∨ k = h ∨ k = o ∨ k = r) w)
  have HI := Lib.hid hi
  have NE := Lib.hid (show (o ≠ g ∧ o ≠ h ∧ r ≠ g ∧ r ≠ h) ∧ o ≠ r from ⟨ne, ho.ne⟩)
  unfold rCs at B0
  simp only at B0
  have HIN := Lib.hid hin
  have HAT := Lib.hid (at_any o r s tries _ got w ho hi)
  have HRG := Lib.hid (fun i => wordF_range hb i)
  unfold atR at HAT
  simp only [if_true, if_false] at HAT
  clear ho hb hi ne hin
  have q0 := B0.out.cell 0
  have q12 := B0.out.cell 12
  simp only [List.getElem?_toArray, List.getElem?_cons_succ, List.getElem?_cons_zero] at q0 q12
  go_enter Try.func16, Try.ntmps16
  go_wp2_with fail
  refine wp_scope_ahead 1 (fun c0 HC => ?_)
  go_wp2_with fail
  refine HAT.out.mono ?_; rintro e w1 ⟨rfl, hb1⟩
  clear HAT
  clear q0 q12
  have Bw1 := Lib.hid (B0.out.bl hb1)
  have Rw1 := Lib.hid (R0.out.bl hb1)
  have Kw1 := Lib.hid (K0.out.below hb1)
  have Xw1 := Lib.hid (X0.out.trans (Ex.of_below hb1))
  clear hb1 B0 R0 K0 X0
  go_wp2_with fail
  refine (Load_any g h ws t (s.seq) w1 Kw1.out).mono ?_; rintro e w2 ⟨rfl, hb1, hx1⟩
  rw [errF_out HIN.out, wordF_out HIN.out]
  have ee := Ex.of_ex2 (T := fun k => k = g ∨ k = h) hx1 (.inl rfl) (.inr rfl)
  have Bw2 := Lib.hid (Bw1.out.ex ee (by have := NE.out; omega))
  have Rw2 := Lib.hid (Rw1.out.ex ee (by have := NE.out; omega))
  have Kw2 := Lib.hid (hb1)
  have Xw2 := Lib.hid (Xw1.out.trans (ee.mono (fun k hk => hk.elim .inl (fun h => .inr (.inl h)))))
  clear ee hb1 hx1 Bw1 Rw1 Kw1 Xw1
  have q0 := Bw2.out.cell 0
  have q12 := Bw2.out.cell 12
  simp only [List.getElem?_toArray, List.getElem?_cons_succ, List.getElem?_cons_zero] at q0 q12
  have f12 := Bw2.out.frozen 12
  go_wp2_with fail
  clear q0 q12 f12
  have ee := ((Ex.refl (fun k => k = o) w2).setCell (q := ⟨o, 12, none⟩) (.inl rfl) (.int .i64 3))
  have bb := (Bw2.out.set_ 12 (.int .i64 3))
  simp only [List.setIfInBounds_toArray, List.set_cons_succ, List.set_cons_zero] at bb
  have Bwz := Lib.hid (bb)
  have Rwz := Lib.hid (Rw2.out.ex ee (by have := NE.out; omega))
  have Kwz := Lib.hid (Kw2.out.ex ee (by have := NE.out; omega) (by have := NE.out; omega))
  have Xwz := Lib.hid (Xw2.out.trans (ee.mono (fun k hk => .inr (.inr (.inl hk)))))
  clear ee bb Bw2 Rw2 Kw2 Xw2
  first | rw [goOn_ret] | skip
  go_ret
  exact ⟨rfl, Kwz.out, ⟨Bwz.out, Rwz.out, NE.out.2⟩, Xwz.out⟩

set_option maxRecDepth 100000 in
set_option maxHeartbeats 4000000 in
theorem R_out1 (g h o r : Nat) (ws : List Int) (t : Int) (s : Spot) (tries had gen nn begun steps : Int) (got : List Int) (w : World) (hb : BankAt w g h ws t) (ho : RdAt w o r s tries ⟨0, 1, had, gen, nn, begun, steps⟩ got) (hi : RInv s tries ⟨0, 1, had, gen, nn, begun, steps⟩ got)
    (ne : o ≠ g ∧ o ≠ h ∧ r ≠ g ∧ r ≠ h) (hin : ¬ inW ws (placeR s gen nn)) :
    Calls Try.prog 16 #[.pointer (some ⟨o, 0, none⟩), .pointer (some ⟨g, 0, none⟩)] w fun e w' => e = .returned (.int .i64 (RS.how ⟨3, 1, had, gen, nn, begun, steps⟩)) ∧ BankAt w' g h ws (tickF ws (placeR s gen nn) t) ∧ RdAt w' o r s tries ⟨3, 1, had, gen, nn, begun, steps⟩ (got) ∧ Ex (fun k => k = g ∨ k = h ∨ k = o ∨ k = r) w w' := by
  have B0 := Lib.hid ho.head
  have R0 := Lib.hid ho.row
  have K0 := Lib.hid hb
  have X0 := Lib.hid (Ex.refl (fun k => k = g ∨ k = h ∨ k = o ∨ k = r) w)
  have HI := Lib.hid hi
  have NE := Lib.hid (show (o ≠ g ∧ o ≠ h ∧ r ≠ g ∧ r ≠ h) ∧ o ≠ r from ⟨ne, ho.ne⟩)
  unfold rCs at B0
  simp only at B0
  have HIN := Lib.hid hin
  have HAT := Lib.hid (at_any o r s tries _ got w ho hi)
  have HRG := Lib.hid (fun i => wordF_range hb i)
  unfold atR at HAT
  simp only [if_true, if_false] at HAT
  clear ho hb hi ne hin
  have q0 := B0.out.cell 0
  have q12 := B0.out.cell 12
  simp only [List.getElem?_toArray, List.getElem?_cons_succ, List.getElem?_cons_zero] at q0 q12
  go_enter Try.func16, Try.ntmps16
  go_wp2_with fail
  refine wp_scope_ahead 1 (fun c0 HC => ?_)
  go_wp2_with fail
  refine HAT.out.mono ?_; rintro e w1 ⟨rfl, hb1⟩
  clear HAT
  clear q0 q12
  have Bw1 := Lib.hid (B0.out.bl hb1)
  have Rw1 := Lib.hid (R0.out.bl hb1)
  have Kw1 := Lib.hid (K0.out.below hb1)
  have Xw1 := Lib.hid (X0.out.trans (Ex.of_below hb1))
  clear hb1 B0 R0 K0 X0
  go_wp2_with fail
  refine (Load_any g h ws t (placeR s gen nn) w1 Kw1.out).mono ?_; rintro e w2 ⟨rfl, hb1, hx1⟩
  rw [errF_out HIN.out, wordF_out HIN.out]
  have ee := Ex.of_ex2 (T := fun k => k = g ∨ k = h) hx1 (.inl rfl) (.inr rfl)
  have Bw2 := Lib.hid (Bw1.out.ex ee (by have := NE.out; omega))
  have Rw2 := Lib.hid (Rw1.out.ex ee (by have := NE.out; omega))
  have Kw2 := Lib.hid (hb1)
  have Xw2 := Lib.hid (Xw1.out.trans (ee.mono (fun k hk => hk.elim .inl (fun h => .inr (.inl h)))))
  clear ee hb1 hx1 Bw1 Rw1 Kw1 Xw1
  have q0 := Bw2.out.cell 0
  have q12 := Bw2.out.cell 12
  simp only [List.getElem?_toArray, List.getElem?_cons_succ, List.getElem?_cons_zero] at q0 q12
  have f12 := Bw2.out.frozen 12
  go_wp2_with fail
  clear q0 q12 f12
  have ee := ((Ex.refl (fun k => k = o) w2).setCell (q := ⟨o, 12, none⟩) (.inl rfl) (.int .i64 3))
  have bb := (Bw2.out.set_ 12 (.int .i64 3))
  simp only [List.setIfInBounds_toArray, List.set_cons_succ, List.set_cons_zero] at bb
  have Bwz := Lib.hid (bb)
  have Rwz := Lib.hid (Rw2.out.ex ee (by have := NE.out; omega))
  have Kwz := Lib.hid (Kw2.out.ex ee (by have := NE.out; omega) (by have := NE.out; omega))
  have Xwz := Lib.hid (Xw2.out.trans (ee.mono (fun k hk => .inr (.inr (.inl hk)))))
  clear ee bb Bw2 Rw2 Kw2 Xw2
  first | rw [goOn_ret] | skip
  go_ret
  exact ⟨rfl, Kwz.out, ⟨Bwz.out, Rwz.out, NE.out.2⟩, Xwz.out⟩

set_option maxRecDepth 100000 in
set_option maxHeartbeats 4000000 in
theorem R_out2 (g h o r : Nat) (ws : List Int) (t : Int) (s : Spot) (tries had gen nn begun steps : Int) (got : List Int) (w : World) (hb : BankAt w g h ws t) (ho : RdAt w o r s tries ⟨0, 2, had, gen, nn, begun, steps⟩ got) (hi : RInv s tries ⟨0, 2, had, gen, nn, begun, steps⟩ got)
    (ne : o ≠ g ∧ o ≠ h ∧ r ≠ g ∧ r ≠ h) (hin : ¬ inW ws (s.seq)) :
    Calls Try.prog 16 #[.pointer (some ⟨o, 0, none⟩), .pointer (some ⟨g, 0, none⟩)] w fun e w' => e = .returned (.int .i64 (RS.how ⟨3, 2, had, gen, nn, begun, steps⟩)) ∧ BankAt w' g h ws (tickF ws (s.seq) t) ∧ RdAt w' o r s tries ⟨3, 2, had, gen, nn, begun, steps⟩ (got) ∧ Ex (fun k => k = g ∨ k = h ∨ k = o ∨ k = r) w w' := by
  have B0 := Lib.hid ho.head
  have R0 := Lib.hid ho.row
  have K0 := Lib.hid hb
  have X0 := Lib.hid (Ex.refl (fun k => k = g ∨ k = h ∨ k = o ∨ k = r) w)
  have HI := Lib.hid hi
  have NE := Lib.hid (show (o ≠ g ∧ o ≠ h ∧ r ≠ g ∧ r ≠ h) ∧ o ≠ r from ⟨ne, ho.ne⟩)
  unfold rCs at B0
  simp only at B0
  have HIN := Lib.hid hin
  have HAT := Lib.hid (at_any o r s tries _ got w ho hi)
  have HRG := Lib.hid (fun i => wordF_range hb i)
  unfold atR at HAT
  simp only [if_true, if_false] at HAT
  clear ho hb hi ne hin
  have q0 := B0.out.cell 0
  have q12 := B0.out.cell 12
  simp only [List.getElem?_toArray, List.getElem?_cons_succ, List.getElem?_cons_zero] at q0 q12
  go_enter Try.func16, Try.ntmps16
  go_wp2_with fail
  refine wp_scope_ahead 1 (fun c0 HC => ?_)
  go_wp2_with fail
  refine HAT.out.mono ?_; rintro e w1 ⟨rfl, hb1⟩
  clear HAT
  clear q0 q12
  have Bw1 := Lib.hid (B0.out.bl hb1)
  have Rw1 := Lib.hid (R0.out.bl hb1)
  have Kw1 := Lib.hid (K0.out.below hb1)
  have Xw1 := Lib.hid (X0.out.trans (Ex.of_below hb1))
  clear hb1 B0 R0 K0 X0
  go_wp2_with fail
  refine (Load_any g h ws t (s.seq) w1 Kw1.out).mono ?_; rintro e w2 ⟨rfl, hb1, hx1⟩
  rw [errF_out HIN.out, wordF_out HIN.out]
  have ee := Ex.of_ex2 (T := fun k => k = g ∨ k = h) hx1 (.inl rfl) (.inr rfl)
  have Bw2 := Lib.hid (Bw1.out.ex ee (by have := NE.out; omega))
  have Rw2 := Lib.hid (Rw1.out.ex ee (by have := NE.out; omega))
  have Kw2 := Lib.hid (hb1)
  have Xw2 := Lib.hid (Xw1.out.trans (ee.mono (fun k hk => hk.elim .inl (fun h => .inr (.inl h)))))
  clear ee hb1 hx1 Bw1 Rw1 Kw1 Xw1
  have q0 := Bw2.out.cell 0
  have q12 := Bw2.out.cell 12
  simp only [List.getElem?_toArray, List.getElem?_cons_succ, List.getElem?_cons_zero] at q0 q12
  have f12 := Bw2.out.frozen 12
  go_wp2_with fail
  clear q0 q12 f12
  have ee := ((Ex.refl (fun k => k = o) w2).setCell (q := ⟨o, 12, none⟩) (.inl rfl) (.int .i64 3))
  have bb := (Bw2.out.set_ 12 (.int .i64 3))
  simp only [List.setIfInBounds_toArray, List.set_cons_succ, List.set_cons_zero] at bb
  have Bwz := Lib.hid (bb)
  have Rwz := Lib.hid (Rw2.out.ex ee (by have := NE.out; omega))
  have Kwz := Lib.hid (Kw2.out.ex ee (by have := NE.out; omega) (by have := NE.out; omega))
  have Xwz := Lib.hid (Xw2.out.trans (ee.mono (fun k hk => .inr (.inr (.inl hk)))))
  clear ee bb Bw2 Rw2 Kw2 Xw2
  first | rw [goOn_ret] | skip
  go_ret
  exact ⟨rfl, Kwz.out, ⟨Bwz.out, Rwz.out, NE.out.2⟩, Xwz.out⟩

set_option maxRecDepth 100000 in
set_option maxHeartbeats 4000000 in
theorem R_first (g h o r : Nat) (ws : List Int) (t : Int) (s : Spot) (tries had gen nn begun steps : Int) (got : List Int) (w : World) (hb : BankAt w g h ws t) (ho : RdAt w o r s tries ⟨0, 0, had, gen, nn, begun, steps⟩ got) (hi : RInv s tries ⟨0, 0, had, gen, nn, begun, steps⟩ got)
    (ne : o ≠ g ∧ o ≠ h ∧ r ≠ g ∧ r ≠ h) (hin : inW ws s.seq) :
    Calls Try.prog 16 #[.pointer (some ⟨o, 0, none⟩), .pointer (some ⟨g, 0, none⟩)] w fun e w' => e = .returned (.int .i64 (RS.how ⟨0, 1, had, wordF ws s.seq / 2, 0, steps + 1, steps + 1⟩)) ∧ BankAt w' g h ws (tickF ws (s.seq) t) ∧ RdAt w' o r s tries ⟨0, 1, had, wordF ws s.seq / 2, 0, steps + 1, steps + 1⟩ (got) ∧ Ex (fun k => k = g ∨ k = h ∨ k = o ∨ k = r) w w' := by
  have B0 := Lib.hid ho.head
  have R0 := Lib.hid ho.row
  have K0 := Lib.hid hb
  have X0 := Lib.hid (Ex.refl (fun k => k = g ∨ k = h ∨ k = o ∨ k = r) w)
  have HI := Lib.hid hi
  have NE := Lib.hid (show (o ≠ g ∧ o ≠ h ∧ r ≠ g ∧ r ≠ h) ∧ o ≠ r from ⟨ne, ho.ne⟩)
  unfold rCs at B0
  simp only at B0
  have HIN := Lib.hid hin
  have HAT := Lib.hid (at_any o r s tries _ got w ho hi)
  have HRG := Lib.hid (fun i => wordF_range hb i)
  unfold atR at HAT
  simp only [if_true, if_false] at HAT
  clear ho hb hi ne hin
  have q0 := B0.out.cell 0
  have q12 := B0.out.cell 12
  simp only [List.getElem?_toArray, List.getElem?_cons_succ, List.getElem?_cons_zero] at q0 q12
  go_enter Try.func16, Try.ntmps16
  go_wp2_with fail
  refine wp_scope_ahead 1 (fun c0 HC => ?_)
  go_wp2_with fail
  refine HAT.out.mono ?_; rintro e w1 ⟨rfl, hb1⟩
  clear HAT
  clear q0 q12
  have Bw1 := Lib.hid (B0.out.bl hb1)
  have Rw1 := Lib.hid (R0.out.bl hb1)
  have Kw1 := Lib.hid (K0.out.below hb1)
  have Xw1 := Lib.hid (X0.out.trans (Ex.of_below hb1))
  clear hb1 B0 R0 K0 X0
  go_wp2_with fail
  refine (Load_any g h ws t (s.seq) w1 Kw1.out).mono ?_; rintro e w2 ⟨rfl, hb1, hx1⟩
  rw [errF_in HIN.out]
  have ee := Ex.of_ex2 (T := fun k => k = g ∨ k = h) hx1 (.inl rfl) (.inr rfl)
  have Bw2 := Lib.hid (Bw1.out.ex ee (by have := NE.out; omega))
  have Rw2 := Lib.hid (Rw1.out.ex ee (by have := NE.out; omega))
  have Kw2 := Lib.hid (hb1)
  have Xw2 := Lib.hid (Xw1.out.trans (ee.mono (fun k hk => hk.elim .inl (fun h => .inr (.inl h)))))
  clear ee hb1 hx1 Bw1 Rw1 Kw1 Xw1
  generalize hvv : wordF ws (s.seq) = v at *
  have HVV := Lib.hid hvv
  have HR := Lib.hid (show 0 ≤ v ∧ v ≤ 18446744073709551615 by rw [← hvv]; exact HRG.out _)
  clear hvv
  have q0 := Bw2.out.cell 0
  have q6 := Bw2.out.cell 6
  have q11 := Bw2.out.cell 11
  simp only [List.getElem?_toArray, List.getElem?_cons_succ, List.getElem?_cons_zero] at q0 q6 q11
  have f11 := Bw2.out.frozen 11
  have hst : wrap64 (steps + 1) = steps + 1 := HI.out.wst
  go_upto_region 12 with fail
  clear q0 q6 q11 f11
  have ee := ((Ex.refl (fun k => k = o) w2).setCell (q := ⟨o, 11, none⟩) (.inl rfl) (.int .i64 (steps + 1)))
  have bb := (Bw2.out.set_ 11 (.int .i64 (steps + 1)))
  simp only [List.setIfInBounds_toArray, List.set_cons_succ, List.set_cons_zero] at bb
  have Bw3 := Lib.hid (bb)
  have Rw3 := Lib.hid (Rw2.out.ex ee (by have := NE.out; omega))
  have Kw3 := Lib.hid (Kw2.out.ex ee (by have := NE.out; omega) (by have := NE.out; omega))
  have Xw3 := Lib.hid (Xw2.out.trans (ee.mono (fun k hk => .inr (.inr (.inl hk)))))
  clear ee bb Bw2 Rw2 Kw2 Xw2
  generalize (w2.setCell ⟨o, 11, none⟩ (.int .i64 (steps + 1))) = w3 at *
  have hne : Nonempty (Held (fun W : World => W.cell? ⟨o, 0, none⟩ = some (.int .i64 s.owners) ∧ W.cell? ⟨o, 11, none⟩ = some (.int .i64 (steps + 1)))) := ⟨⟨w3, Bw3.out.cell 0, Bw3.out.cell 11⟩⟩
  have p0 : ∀ y : Held (fun W : World => W.cell? ⟨o, 0, none⟩ = some (.int .i64 s.owners) ∧ W.cell? ⟨o, 11, none⟩ = some (.int .i64 (steps + 1))), y.w.cell? ⟨o, 0, none⟩ = some (.int .i64 s.owners) := fun y => y.ok.1
  have p11 : ∀ y : Held (fun W : World => W.cell? ⟨o, 0, none⟩ = some (.int .i64 s.owners) ∧ W.cell? ⟨o, 11, none⟩ = some (.int .i64 (steps + 1))), y.w.cell? ⟨o, 11, none⟩ = some (.int .i64 (steps + 1)) := fun y => y.ok.2
  refine drawn_bars (S := (fun W : World => W.cell? ⟨o, 0, none⟩ = some (.int .i64 s.owners) ∧ W.cell? ⟨o, 11, none⟩ = some (.int .i64 (steps + 1)))) [([0, 1, 2, 3, 4, 6, 7, 8, 9], 5), ([10, 11], 12), ([13, 14], 15), ([16, 17], 18), ([19, 20], 21)] [] (by kernel_rfl) (by kernel_rfl) (by kernel_rfl) rfl ⟨Bw3.out.cell 0, Bw3.out.cell 11⟩ ?_
  refine Phased.go ?_
  simp only [pick, List.map_cons, List.map_nil, List.getElem?_cons_zero, List.getElem?_cons_succ, Option.getD_some]
  repeat (go_big_quiet_step (fail))
  refine wpQuiet_nil ?_
  go_wp2_with fail
  refine (Gen_any _ _).mono ?_; rintro e w4 ⟨rfl, rfl⟩
  go_wp2_with fail
  have Bw4 := Lib.hid (show Blk w3.drew o 82 _ from Bw3.out)
  have Rw4 := Lib.hid (show Row w3.drew r got from Rw3.out)
  have Kw4 := Lib.hid (Kw3.out.below (Below.refl _ w3).drew)
  have Xw4 := Lib.hid (Xw3.out.trans (Ex.refl _ w3).drew)
  clear Bw3 Rw3 Kw3 Xw3
  generalize w3.drew = w4 at *
  refine behind_normal ⟨(fun W : World => W.cell? ⟨o, 0, none⟩ = some (.int .i64 s.owners) ∧ W.cell? ⟨o, 11, none⟩ = some (.int .i64 (steps + 1))), fun W h => h, ⟨Bw4.out.cell 0, Bw4.out.cell 11⟩, ?_⟩
  refine Phased.go ?_
  simp only [pick, List.map_cons, List.map_nil, List.getElem?_cons_zero, List.getElem?_cons_succ, Option.getD_some]
  repeat (go_big_quiet_step (fail))
  refine wpQuiet_nil ?_
  have q7 := Bw4.out.cell 7
  simp only [List.getElem?_toArray, List.getElem?_cons_succ, List.getElem?_cons_zero] at q7
  have f7 := Bw4.out.frozen 7
  go_wp2_with fail
  clear q7 f7
  have ee := ((Ex.refl (fun k => k = o) w4).setCell (q := ⟨o, 7, none⟩) (.inl rfl) (.int .u64 (v / 2)))
  have bb := (Bw4.out.set_ 7 (.int .u64 (v / 2)))
  simp only [List.setIfInBounds_toArray, List.set_cons_succ, List.set_cons_zero] at bb
  have Bw5 := Lib.hid (bb)
  have Rw5 := Lib.hid (Rw4.out.ex ee (by have := NE.out; omega))
  have Kw5 := Lib.hid (Kw4.out.ex ee (by have := NE.out; omega) (by have := NE.out; omega))
  have Xw5 := Lib.hid (Xw4.out.trans (ee.mono (fun k hk => .inr (.inr (.inl hk)))))
  clear ee bb Bw4 Rw4 Kw4 Xw4
  generalize (w4.setCell ⟨o, 7, none⟩ (.int .u64 (v / 2))) = w5 at *
  refine behind_normal ⟨(fun W : World => W.cell? ⟨o, 0, none⟩ = some (.int .i64 s.owners) ∧ W.cell? ⟨o, 11, none⟩ = some (.int .i64 (steps + 1))), fun W h => h, ⟨Bw5.out.cell 0, Bw5.out.cell 11⟩, ?_⟩
  refine Phased.go ?_
  simp only [pick, List.map_cons, List.map_nil, List.getElem?_cons_zero, List.getElem?_cons_succ, Option.getD_some]
  repeat (go_big_quiet_step (fail))
  refine wpQuiet_nil ?_
  have q9 := Bw5.out.cell 9
  simp only [List.getElem?_toArray, List.getElem?_cons_succ, List.getElem?_cons_zero] at q9
  have f9 := Bw5.out.frozen 9
  go_wp2_with fail
  clear q9 f9
  have ee := ((Ex.refl (fun k => k = o) w5).setCell (q := ⟨o, 9, none⟩) (.inl rfl) (.int .i64 0))
  have bb := (Bw5.out.set_ 9 (.int .i64 0))
  simp only [List.setIfInBounds_toArray, List.set_cons_succ, List.set_cons_zero] at bb
  have Bw6 := Lib.hid (bb)
  have Rw6 := Lib.hid (Rw5.out.ex ee (by have := NE.out; omega))
  have Kw6 := Lib.hid (Kw5.out.ex ee (by have := NE.out; omega) (by have := NE.out; omega))
  have Xw6 := Lib.hid (Xw5.out.trans (ee.mono (fun k hk => .inr (.inr (.inl hk)))))
  clear ee bb Bw5 Rw5 Kw5 Xw5
  generalize (w5.setCell ⟨o, 9, none⟩ (.int .i64 0)) = w6 at *
  refine behind_normal ⟨(fun W : World => W.cell? ⟨o, 0, none⟩ = some (.int .i64 s.owners) ∧ W.cell? ⟨o, 11, none⟩ = some (.int .i64 (steps + 1))), fun W h => h, ⟨Bw6.out.cell 0, Bw6.out.cell 11⟩, ?_⟩
  refine Phased.go ?_
  simp only [pick, List.map_cons, List.map_nil, List.getElem?_cons_zero, List.getElem?_cons_succ, Option.getD_some]
  repeat (go_big_quiet_step (fail))
  refine wpQuiet_nil ?_
  have q10 := Bw6.out.cell 10
  simp only [List.getElem?_toArray, List.getElem?_cons_succ, List.getElem?_cons_zero] at q10
  have f10 := Bw6.out.frozen 10
  go_wp2_with fail
  clear q10 f10
  have ee := ((Ex.refl (fun k => k = o) w6).setCell (q := ⟨o, 10, none⟩) (.inl rfl) (.int .i64 (steps + 1)))
  have bb := (Bw6.out.set_ 10 (.int .i64 (steps + 1)))
  simp only [List.setIfInBounds_toArray, List.set_cons_succ, List.set_cons_zero] at bb
  have Bw7 := Lib.hid (bb)
  have Rw7 := Lib.hid (Rw6.out.ex ee (by have := NE.out; omega))
  have Kw7 := Lib.hid (Kw6.out.ex ee (by have := NE.out; omega) (by have := NE.out; omega))
  have Xw7 := Lib.hid (Xw6.out.trans (ee.mono (fun k hk => .inr (.inr (.inl hk)))))
  clear ee bb Bw6 Rw6 Kw6 Xw6
  generalize (w6.setCell ⟨o, 10, none⟩ (.int .i64 (steps + 1))) = w7 at *
  refine behind_normal ⟨(fun W : World => W.cell? ⟨o, 0, none⟩ = some (.int .i64 s.owners) ∧ W.cell? ⟨o, 11, none⟩ = some (.int .i64 (steps + 1))), fun W h => h, ⟨Bw7.out.cell 0, Bw7.out.cell 11⟩, ?_⟩
  refine Phased.go ?_
  simp only [pick, List.map_cons, List.map_nil, List.getElem?_cons_zero, List.getElem?_cons_succ, Option.getD_some]
  repeat (go_big_quiet_step (fail))
  refine wpQuiet_nil ?_
  have q6 := Bw7.out.cell 6
  simp only [List.getElem?_toArray, List.getElem?_cons_succ, List.getElem?_cons_zero] at q6
  have f6 := Bw7.out.frozen 6
  go_wp2_with fail
  clear q6 f6
  have ee := ((Ex.refl (fun k => k = o) w7).setCell (q := ⟨o, 6, none⟩) (.inl rfl) (.int .i64 1))
  have bb := (Bw7.out.set_ 6 (.int .i64 1))
  simp only [List.setIfInBounds_toArray, List.set_cons_succ, List.set_cons_zero] at bb
  have Bw8 := Lib.hid (bb)
  have Rw8 := Lib.hid (Rw7.out.ex ee (by have := NE.out; omega))
  have Kw8 := Lib.hid (Kw7.out.ex ee (by have := NE.out; omega) (by have := NE.out; omega))
  have Xw8 := Lib.hid (Xw7.out.trans (ee.mono (fun k hk => .inr (.inr (.inl hk)))))
  clear ee bb Bw7 Rw7 Kw7 Xw7
  generalize (w7.setCell ⟨o, 6, none⟩ (.int .i64 1)) = w8 at *
  refine behind_normal ⟨(fun W : World => W.cell? ⟨o, 0, none⟩ = some (.int .i64 s.owners) ∧ W.cell? ⟨o, 11, none⟩ = some (.int .i64 (steps + 1))), fun W h => h, ⟨Bw8.out.cell 0, Bw8.out.cell 11⟩, ?_⟩
  refine Phased.end_ ?_
  simp only [pick, List.map_cons, List.map_nil, List.getElem?_cons_zero, List.getElem?_cons_succ, Option.getD_some]
  repeat (go_big_quiet_step (fail))
  refine wpQuiet_nil ?_
  clear hne p0 p11
  have q0 := Bw8.out.cell 0
  have q12 := Bw8.out.cell 12
  simp only [List.getElem?_toArray, List.getElem?_cons_succ, List.getElem?_cons_zero] at q0 q12
  go_wp2_with fail
  refine wp_goto ?_
  show goOn Try.prog c0 _ 1 (.goto 0) _ _
  refine goOn_jump HC rfl ?_
  go_wp2_with fail
  clear q0 q12
  first | rw [goOn_ret] | skip
  go_ret
  rw [HVV.out]
  exact ⟨rfl, Kw8.out, ⟨Bw8.out, Rw8.out, NE.out.2⟩, Xw8.out⟩

set_option maxRecDepth 100000 in
set_option maxHeartbeats 4000000 in
theorem R_more (g h o r : Nat) (ws : List Int) (t : Int) (s : Spot) (tries had gen nn begun steps : Int) (got : List Int) (w : World) (hb : BankAt w g h ws t) (ho : RdAt w o r s tries ⟨0, 1, had, gen, nn, begun, steps⟩ got) (hi : RInv s tries ⟨0, 1, had, gen, nn, begun, steps⟩ got)
    (ne : o ≠ g ∧ o ≠ h ∧ r ≠ g ∧ r ≠ h) (hin : inW ws (placeR s gen nn)) (hv : ¬ nn + 1 = (got.length : Int)) :
    Calls Try.prog 16 #[.pointer (some ⟨o, 0, none⟩), .pointer (some ⟨g, 0, none⟩)] w fun e w' => e = .returned (.int .i64 (RS.how ⟨0, 1, had, gen, nn + 1, begun, steps + 1⟩)) ∧ BankAt w' g h ws (tickF ws (placeR s gen nn) t) ∧ RdAt w' o r s tries ⟨0, 1, had, gen, nn + 1, begun, steps + 1⟩ (got.set nn.toNat (wordF ws (placeR s gen nn))) ∧ Ex (fun k => k = g ∨ k = h ∨ k = o ∨ k = r) w w' := by
  obtain ⟨j, rfl⟩ : ∃ j : Nat, nn = j := ⟨nn.toNat, by have := hi.n.1; simp only at this; omega⟩
  have hjn : j < got.length := by have h9 : (j : Int) < s.words := hi.n.2.2.1 rfl rfl; have := hi.len; omega
  have hgl : got.length ≤ 64 := by have := hi.len; have := hi.right.1; omega
  have B0 := Lib.hid ho.head
  have R0 := Lib.hid ho.row
  have K0 := Lib.hid hb
  have X0 := Lib.hid (Ex.refl (fun k => k = g ∨ k = h ∨ k = o ∨ k = r) w)
  have HI := Lib.hid hi
  have NE := Lib.hid (show (o ≠ g ∧ o ≠ h ∧ r ≠ g ∧ r ≠ h) ∧ o ≠ r from ⟨ne, ho.ne⟩)
  unfold rCs at B0
  simp only at B0
  have HIN := Lib.hid hin
  have HV := Lib.hid hv
  have HJN := Lib.hid hjn
  have HGL := Lib.hid hgl
  have HAT := Lib.hid (at_any o r s tries _ got w ho hi)
  have HRG := Lib.hid (fun i => wordF_range hb i)
  unfold atR at HAT
  simp only [if_true, if_false] at HAT
  clear ho hb hi ne hin hv hjn hgl
  have q0 := B0.out.cell 0
  have q12 := B0.out.cell 12
  simp only [List.getElem?_toArray, List.getElem?_cons_succ, List.getElem?_cons_zero] at q0 q12
  go_enter Try.func16, Try.ntmps16
  go_wp2_with fail
  refine wp_scope_ahead 1 (fun c0 HC => ?_)
  go_wp2_with fail
  refine HAT.out.mono ?_; rintro e w1 ⟨rfl, hb1⟩
  clear HAT
  clear q0 q12
  have Bw1 := Lib.hid (B0.out.bl hb1)
  have Rw1 := Lib.hid (R0.out.bl hb1)
  have Kw1 := Lib.hid (K0.out.below hb1)
  have Xw1 := Lib.hid (X0.out.trans (Ex.of_below hb1))
  clear hb1 B0 R0 K0 X0
  go_wp2_with fail
  refine (Load_any g h ws t (placeR s gen (j : Int)) w1 Kw1.out).mono ?_; rintro e w2 ⟨rfl, hb1, hx1⟩
  rw [errF_in HIN.out]
  have ee := Ex.of_ex2 (T := fun k => k = g ∨ k = h) hx1 (.inl rfl) (.inr rfl)
  have Bw2 := Lib.hid (Bw1.out.ex ee (by have := NE.out; omega))
  have Rw2 := Lib.hid (Rw1.out.ex ee (by have := NE.out; omega))
  have Kw2 := Lib.hid (hb1)
  have Xw2 := Lib.hid (Xw1.out.trans (ee.mono (fun k hk => hk.elim .inl (fun h => .inr (.inl h)))))
  clear ee hb1 hx1 Bw1 Rw1 Kw1 Xw1
  generalize hvv : wordF ws (placeR s gen (j : Int)) = v at *
  have HVV := Lib.hid hvv
  have HR := Lib.hid (show 0 ≤ v ∧ v ≤ 18446744073709551615 by rw [← hvv]; exact HRG.out _)
  clear hvv
  have q0 := Bw2.out.cell 0
  have q6 := Bw2.out.cell 6
  have q11 := Bw2.out.cell 11
  simp only [List.getElem?_toArray, List.getElem?_cons_succ, List.getElem?_cons_zero] at q0 q6 q11
  have f11 := Bw2.out.frozen 11
  have hst : wrap64 (steps + 1) = steps + 1 := HI.out.wst
  go_upto_region 14 with fail
  clear q0 q6 q11 f11
  have ee := ((Ex.refl (fun k => k = o) w2).setCell (q := ⟨o, 11, none⟩) (.inl rfl) (.int .i64 (steps + 1)))
  have bb := (Bw2.out.set_ 11 (.int .i64 (steps + 1)))
  simp only [List.setIfInBounds_toArray, List.set_cons_succ, List.set_cons_zero] at bb
  have Bw3 := Lib.hid (bb)
  have Rw3 := Lib.hid (Rw2.out.ex ee (by have := NE.out; omega))
  have Kw3 := Lib.hid (Kw2.out.ex ee (by have := NE.out; omega) (by have := NE.out; omega))
  have Xw3 := Lib.hid (Xw2.out.trans (ee.mono (fun k hk => .inr (.inr (.inl hk)))))
  clear ee bb Bw2 Rw2 Kw2 Xw2
  generalize (w2.setCell ⟨o, 11, none⟩ (.int .i64 (steps + 1))) = w3 at *
  have kj0 : (0 : Int) ≤ (j : Int) := by omega
  have kj1 : (j : Int) < (got.length : Int) := by have := HJN.out; omega
  have kj2 : (j : Int) ≤ 64 := by have := HJN.out; have := HGL.out; omega
  have hne : Nonempty (Held (Ex (fun k => k = r) w3)) := ⟨⟨w3, Ex.refl _ _⟩⟩
  have p0 : ∀ y : Held (Ex (fun k => k = r) w3), y.w.cell? ⟨o, 0, none⟩ = some (.int .i64 s.owners) := fun y => (Bw3.out.ex y.ok (by have := NE.out; omega)).cell 0
  have p8 : ∀ y : Held (Ex (fun k => k = r) w3), y.w.cell? ⟨o, 8, none⟩ = some (.slice (some ⟨r, 0, none⟩) got.length got.length) := fun y => (Bw3.out.ex y.ok (by have := NE.out; omega)).cell 8
  have p9 : ∀ y : Held (Ex (fun k => k = r) w3), y.w.cell? ⟨o, 9, none⟩ = some (.int .i64 (j : Int)) := fun y => (Bw3.out.ex y.ok (by have := NE.out; omega)).cell 9
  refine drawn_bars (S := Ex (fun k => k = r) w3) [([0, 1, 2, 3, 4, 5, 6, 7, 8, 9], 10)] [] (by kernel_rfl) (by kernel_rfl) (by kernel_rfl) rfl (Ex.refl _ w3).drew ?_
  refine Phased.go ?_
  simp only [pick, List.map_cons, List.map_nil, List.getElem?_cons_zero, List.getElem?_cons_succ, Option.getD_some]
  repeat (go_big_quiet_step (fail))
  refine wpQuiet_nil ?_
  clear hne p0 p8 p9
  have qw := Rw3.out.word HJN.out
  have fw := Blk.frozen Rw3.out j
  go_wp2_with fail
  have ee := ((Ex.refl (fun k => k = r) w3).setCell (q := ⟨r, j, none⟩) (.inl rfl) (.int .u64 v)).drew
  have bb : Row ((w3.setCell ⟨r, j, none⟩ (.int .u64 v)).drew) r (got.set j v) := Rw3.out.stored j v
  have Bw5 := Lib.hid (Bw3.out.ex ee (by have := NE.out; omega))
  have Rw5 := Lib.hid (bb)
  have Kw5 := Lib.hid (Kw3.out.ex ee (by have := NE.out; omega) (by have := NE.out; omega))
  have Xw5 := Lib.hid (Xw3.out.trans (ee.mono (fun k hk => .inr (.inr (.inr hk)))))
  have EE5 := Lib.hid ee
  clear ee bb qw fw Bw3 Rw3 Kw3 Xw3
  generalize (w3.setCell ⟨r, j, none⟩ (.int .u64 v)).drew = w5 at *
  refine behind_normal ⟨fun W => W = w5, fun W hW => by rw [hW]; exact EE5.out, rfl, ?_⟩
  refine Phased.end_ ?_
  simp only [pick, List.map_cons, List.map_nil, List.getElem?_cons_zero, List.getElem?_cons_succ, Option.getD_some]
  repeat (go_big_quiet_step (fail))
  refine wpQuiet_nil ?_
  have q0 := Bw5.out.cell 0
  have q9 := Bw5.out.cell 9
  simp only [List.getElem?_toArray, List.getElem?_cons_succ, List.getElem?_cons_zero] at q0 q9
  have f9 := Bw5.out.frozen 9
  go_upto_region 16 with fail
  clear q0 q9 f9
  have ee := ((Ex.refl (fun k => k = o) w5).setCell (q := ⟨o, 9, none⟩) (.inl rfl) (.int .i64 ((j : Int) + 1)))
  have bb := (Bw5.out.set_ 9 (.int .i64 ((j : Int) + 1)))
  simp only [List.setIfInBounds_toArray, List.set_cons_succ, List.set_cons_zero] at bb
  have Bw6 := Lib.hid (bb)
  have Rw6 := Lib.hid (Rw5.out.ex ee (by have := NE.out; omega))
  have Kw6 := Lib.hid (Kw5.out.ex ee (by have := NE.out; omega) (by have := NE.out; omega))
  have Xw6 := Lib.hid (Xw5.out.trans (ee.mono (fun k hk => .inr (.inr (.inl hk)))))
  clear ee bb Bw5 Rw5 Kw5 Xw5
  generalize (w5.setCell ⟨o, 9, none⟩ (.int .i64 ((j : Int) + 1))) = w6 at *
  have hne : Nonempty (Held (fun W => W = w6.drew)) := ⟨⟨_, rfl⟩⟩
  have p0 : ∀ y : Held (fun W => W = w6.drew), y.w.cell? ⟨o, 0, none⟩ = some (.int .i64 s.owners) := fun y => by rw [y.ok]; exact Bw6.out.cell 0
  have p8 : ∀ y : Held (fun W => W = w6.drew), y.w.cell? ⟨o, 8, none⟩ = some (.slice (some ⟨r, 0, none⟩) got.length got.length) := fun y => by rw [y.ok]; exact Bw6.out.cell 8
  have p9 : ∀ y : Held (fun W => W = w6.drew), y.w.cell? ⟨o, 9, none⟩ = some (.int .i64 ((j : Int) + 1)) := fun y => by rw [y.ok]; exact Bw6.out.cell 9
  refine drawn_bars (S := fun _ => True) [] [0, 1, 2, 3, 4, 5, 6, 7, 8, 9] (by kernel_rfl) (by kernel_rfl) (by kernel_rfl) rfl trivial ?_
  refine Phased.end_ ?_
  simp only [pick, List.map_cons, List.map_nil, List.getElem?_cons_zero, List.getElem?_cons_succ, Option.getD_some]
  repeat (go_big_quiet_step (fail))
  refine wpQuiet_nil ?_
  clear hne p0 p8 p9
  have Bw7 := Lib.hid (show Blk w6.drew o 82 _ from Bw6.out)
  have Rw7 := Lib.hid (show Row w6.drew r _ from Rw6.out)
  have Kw7 := Lib.hid (Kw6.out.below (Below.refl _ w6).drew)
  have Xw7 := Lib.hid (Xw6.out.trans (Ex.refl _ w6).drew)
  clear Bw6 Rw6 Kw6 Xw6
  generalize w6.drew = w7 at *
  have kl : ((j : Int) + 1 == (got.length : Int)) = false := beq_eq_false_iff_ne.2 HV.out
  have q0 := Bw7.out.cell 0
  have q12 := Bw7.out.cell 12
  simp only [List.getElem?_toArray, List.getElem?_cons_succ, List.getElem?_cons_zero] at q0 q12
  go_wp2_with fail
  refine wp_goto ?_
  show goOn Try.prog c0 _ 1 (.goto 0) _ _
  refine goOn_jump HC rfl ?_
  go_wp2_with fail
  clear q0 q12
  first | rw [goOn_ret] | skip
  go_ret
  rw [HVV.out, Int.toNat_natCast]
  have hln : (got.set j v).length = got.length := by rw [List.length_set]
  exact ⟨rfl, Kw7.out, ⟨by rw [hln]; exact Bw7.out, Rw7.out, NE.out.2⟩, Xw7.out⟩

set_option maxRecDepth 100000 in
set_option maxHeartbeats 4000000 in
theorem R_last (g h o r : Nat) (ws : List Int) (t : Int) (s : Spot) (tries had gen nn begun steps : Int) (got : List Int) (w : World) (hb : BankAt w g h ws t) (ho : RdAt w o r s tries ⟨0, 1, had, gen, nn, begun, steps⟩ got) (hi : RInv s tries ⟨0, 1, had, gen, nn, begun, steps⟩ got)
    (ne : o ≠ g ∧ o ≠ h ∧ r ≠ g ∧ r ≠ h) (hin : inW ws (placeR s gen nn)) (hv : nn + 1 = (got.length : Int)) :
    Calls Try.prog 16 #[.pointer (some ⟨o, 0, none⟩), .pointer (some ⟨g, 0, none⟩)] w fun e w' => e = .returned (.int .i64 (RS.how ⟨0, 2, had, gen, nn + 1, begun, steps + 1⟩)) ∧ BankAt w' g h ws (tickF ws (placeR s gen nn) t) ∧ RdAt w' o r s tries ⟨0, 2, had, gen, nn + 1, begun, steps + 1⟩ (got.set nn.toNat (wordF ws (placeR s gen nn))) ∧ Ex (fun k => k = g ∨ k = h ∨ k = o ∨ k = r) w w' := by
  obtain ⟨j, rfl⟩ : ∃ j : Nat, nn = j := ⟨nn.toNat, by have := hi.n.1; simp only at this; omega⟩
  have hjn : j < got.length := by have h9 : (j : Int) < s.words := hi.n.2.2.1 rfl rfl; have := hi.len; omega
  have hgl : got.length ≤ 64 := by have := hi.len; have := hi.right.1; omega
  have B0 := Lib.hid ho.head
  have R0 := Lib.hid ho.row
  have K0 := Lib.hid hb
  have X0 := Lib.hid (Ex.refl (fun k => k = g ∨ k = h ∨ k = o ∨ k = r) w)
  have HI := Lib.hid hi
  have NE := Lib.hid (show (o ≠ g ∧ o ≠ h ∧ r ≠ g ∧ r ≠ h) ∧ o ≠ r from ⟨ne, ho.ne⟩)
  unfold rCs at B0
  simp only at B0
  have HIN := Lib.hid hin
  have HV := Lib.hid hv
  have HJN := Lib.hid hjn
  have HGL := Lib.hid hgl
  have HAT := Lib.hid (at_any o r s tries _ got w ho hi)
  have HRG := Lib.hid (fun i => wordF_range hb i)
  unfold atR at HAT
  simp only [if_true, if_false] at HAT
  clear ho hb hi ne hin hv hjn hgl
  have q0 := B0.out.cell 0
  have q12 := B0.out.cell 12
  simp only [List.getElem?_toArray, List.getElem?_cons_succ, List.getElem?_cons_zero] at q0 q12
  go_enter Try.func16, Try.ntmps16
  go_wp2_with fail
  refine wp_scope_ahead 1 (fun c0 HC => ?_)
  go_wp2_with fail
  refine HAT.out.mono ?_; rintro e w1 ⟨rfl, hb1⟩
  clear HAT
  clear q0 q12
  have Bw1 := Lib.hid (B0.out.bl hb1)
  have Rw1 := Lib.hid (R0.out.bl hb1)
  have Kw1 := Lib.hid (K0.out.below hb1)
  have Xw1 := Lib.hid (X0.out.trans (Ex.of_below hb1))
  clear hb1 B0 R0 K0 X0
  go_wp2_with fail
  refine (Load_any g h ws t (placeR s gen (j : Int)) w1 Kw1.out).mono ?_; rintro e w2 ⟨rfl, hb1, hx1⟩
  rw [errF_in HIN.out]
  have ee := Ex.of_ex2 (T := fun k => k = g ∨ k = h) hx1 (.inl rfl) (.inr rfl)
  have Bw2 := Lib.hid (Bw1.out.ex ee (by have := NE.out; omega))
  have Rw2 := Lib.hid (Rw1.out.ex ee (by have := NE.out; omega))
  have Kw2 := Lib.hid (hb1)
  have Xw2 := Lib.hid (Xw1.out.trans (ee.mono (fun k hk => hk.elim .inl (fun h => .inr (.inl h)))))
  clear ee hb1 hx1 Bw1 Rw1 Kw1 Xw1
  generalize hvv : wordF ws (placeR s gen (j : Int)) = v at *
  have HVV := Lib.hid hvv
  have HR := Lib.hid (show 0 ≤ v ∧ v ≤ 18446744073709551615 by rw [← hvv]; exact HRG.out _)
  clear hvv
  have q0 := Bw2.out.cell 0
  have q6 := Bw2.out.cell 6
  have q11 := Bw2.out.cell 11
  simp only [List.getElem?_toArray, List.getElem?_cons_succ, List.getElem?_cons_zero] at q0 q6 q11
  have f11 := Bw2.out.frozen 11
  have hst : wrap64 (steps + 1) = steps + 1 := HI.out.wst
  go_upto_region 14 with fail
  clear q0 q6 q11 f11
  have ee := ((Ex.refl (fun k => k = o) w2).setCell (q := ⟨o, 11, none⟩) (.inl rfl) (.int .i64 (steps + 1)))
  have bb := (Bw2.out.set_ 11 (.int .i64 (steps + 1)))
  simp only [List.setIfInBounds_toArray, List.set_cons_succ, List.set_cons_zero] at bb
  have Bw3 := Lib.hid (bb)
  have Rw3 := Lib.hid (Rw2.out.ex ee (by have := NE.out; omega))
  have Kw3 := Lib.hid (Kw2.out.ex ee (by have := NE.out; omega) (by have := NE.out; omega))
  have Xw3 := Lib.hid (Xw2.out.trans (ee.mono (fun k hk => .inr (.inr (.inl hk)))))
  clear ee bb Bw2 Rw2 Kw2 Xw2
  generalize (w2.setCell ⟨o, 11, none⟩ (.int .i64 (steps + 1))) = w3 at *
  have kj0 : (0 : Int) ≤ (j : Int) := by omega
  have kj1 : (j : Int) < (got.length : Int) := by have := HJN.out; omega
  have kj2 : (j : Int) ≤ 64 := by have := HJN.out; have := HGL.out; omega
  have hne : Nonempty (Held (Ex (fun k => k = r) w3)) := ⟨⟨w3, Ex.refl _ _⟩⟩
  have p0 : ∀ y : Held (Ex (fun k => k = r) w3), y.w.cell? ⟨o, 0, none⟩ = some (.int .i64 s.owners) := fun y => (Bw3.out.ex y.ok (by have := NE.out; omega)).cell 0
  have p8 : ∀ y : Held (Ex (fun k => k = r) w3), y.w.cell? ⟨o, 8, none⟩ = some (.slice (some ⟨r, 0, none⟩) got.length got.length) := fun y => (Bw3.out.ex y.ok (by have := NE.out; omega)).cell 8
  have p9 : ∀ y : Held (Ex (fun k => k = r) w3), y.w.cell? ⟨o, 9, none⟩ = some (.int .i64 (j : Int)) := fun y => (Bw3.out.ex y.ok (by have := NE.out; omega)).cell 9
  refine drawn_bars (S := Ex (fun k => k = r) w3) [([0, 1, 2, 3, 4, 5, 6, 7, 8, 9], 10)] [] (by kernel_rfl) (by kernel_rfl) (by kernel_rfl) rfl (Ex.refl _ w3).drew ?_
  refine Phased.go ?_
  simp only [pick, List.map_cons, List.map_nil, List.getElem?_cons_zero, List.getElem?_cons_succ, Option.getD_some]
  repeat (go_big_quiet_step (fail))
  refine wpQuiet_nil ?_
  clear hne p0 p8 p9
  have qw := Rw3.out.word HJN.out
  have fw := Blk.frozen Rw3.out j
  go_wp2_with fail
  have ee := ((Ex.refl (fun k => k = r) w3).setCell (q := ⟨r, j, none⟩) (.inl rfl) (.int .u64 v)).drew
  have bb : Row ((w3.setCell ⟨r, j, none⟩ (.int .u64 v)).drew) r (got.set j v) := Rw3.out.stored j v
  have Bw5 := Lib.hid (Bw3.out.ex ee (by have := NE.out; omega))
  have Rw5 := Lib.hid (bb)
  have Kw5 := Lib.hid (Kw3.out.ex ee (by have := NE.out; omega) (by have := NE.out; omega))
  have Xw5 := Lib.hid (Xw3.out.trans (ee.mono (fun k hk => .inr (.inr (.inr hk)))))
  have EE5 := Lib.hid ee
  clear ee bb qw fw Bw3 Rw3 Kw3 Xw3
  generalize (w3.setCell ⟨r, j, none⟩ (.int .u64 v)).drew = w5 at *
  refine behind_normal ⟨fun W => W = w5, fun W hW => by rw [hW]; exact EE5.out, rfl, ?_⟩
  refine Phased.end_ ?_
  simp only [pick, List.map_cons, List.map_nil, List.getElem?_cons_zero, List.getElem?_cons_succ, Option.getD_some]
  repeat (go_big_quiet_step (fail))
  refine wpQuiet_nil ?_
  have q0 := Bw5.out.cell 0
  have q9 := Bw5.out.cell 9
  simp only [List.getElem?_toArray, List.getElem?_cons_succ, List.getElem?_cons_zero] at q0 q9
  have f9 := Bw5.out.frozen 9
  go_upto_region 16 with fail
  clear q0 q9 f9
  have ee := ((Ex.refl (fun k => k = o) w5).setCell (q := ⟨o, 9, none⟩) (.inl rfl) (.int .i64 ((j : Int) + 1)))
  have bb := (Bw5.out.set_ 9 (.int .i64 ((j : Int) + 1)))
  simp only [List.setIfInBounds_toArray, List.set_cons_succ, List.set_cons_zero] at bb
  have Bw6 := Lib.hid (bb)
  have Rw6 := Lib.hid (Rw5.out.ex ee (by have := NE.out; omega))
  have Kw6 := Lib.hid (Kw5.out.ex ee (by have := NE.out; omega) (by have := NE.out; omega))
  have Xw6 := Lib.hid (Xw5.out.trans (ee.mono (fun k hk => .inr (.inr (.inl hk)))))
  clear ee bb Bw5 Rw5 Kw5 Xw5
  generalize (w5.setCell ⟨o, 9, none⟩ (.int .i64 ((j : Int) + 1))) = w6 at *
  have hne : Nonempty (Held (fun W => W = w6.drew)) := ⟨⟨_, rfl⟩⟩
  have p0 : ∀ y : Held (fun W => W = w6.drew), y.w.cell? ⟨o, 0, none⟩ = some (.int .i64 s.owners) := fun y => by rw [y.ok]; exact Bw6.out.cell 0
  have p8 : ∀ y : Held (fun W => W = w6.drew), y.w.cell? ⟨o, 8, none⟩ = some (.slice (some ⟨r, 0, none⟩) got.length got.length) := fun y => by rw [y.ok]; exact Bw6.out.cell 8
  have p9 : ∀ y : Held (fun W => W = w6.drew), y.w.cell? ⟨o, 9, none⟩ = some (.int .i64 ((j : Int) + 1)) := fun y => by rw [y.ok]; exact Bw6.out.cell 9
  refine drawn_bars (S := fun _ => True) [] [0, 1, 2, 3, 4, 5, 6, 7, 8, 9] (by kernel_rfl) (by kernel_rfl) (by kernel_rfl) rfl trivial ?_
  refine Phased.end_ ?_
  simp only [pick, List.map_cons, List.map_nil, List.getElem?_cons_zero, List.getElem?_cons_succ, Option.getD_some]
  repeat (go_big_quiet_step (fail))
  refine wpQuiet_nil ?_
  clear hne p0 p8 p9
  have Bw7 := Lib.hid (show Blk w6.drew o 82 _ from Bw6.out)
  have Rw7 := Lib.hid (show Row w6.drew r _ from Rw6.out)
  have Kw7 := Lib.hid (Kw6.out.below (Below.refl _ w6).drew)
  have Xw7 := Lib.hid (Xw6.out.trans (Ex.refl _ w6).drew)
  clear Bw6 Rw6 Kw6 Xw6
  generalize w6.drew = w7 at *
  have kl : ((j : Int) + 1 == (got.length : Int)) = true := beq_iff_eq.2 HV.out
  have q0 := Bw7.out.cell 0
  have q6 := Bw7.out.cell 6
  have q12 := Bw7.out.cell 12
  simp only [List.getElem?_toArray, List.getElem?_cons_succ, List.getElem?_cons_zero] at q0 q6 q12
  have f6 := Bw7.out.frozen 6
  go_wp2_with fail
  refine wp_goto ?_
  show goOn Try.prog c0 _ 1 (.goto 0) _ _
  refine goOn_jump HC rfl ?_
  go_wp2_with fail
  clear q0 q6 q12 f6
  have ee := ((Ex.refl (fun k => k = o) w7).setCell (q := ⟨o, 6, none⟩) (.inl rfl) (.int .i64 2))
  have bb := (Bw7.out.set_ 6 (.int .i64 2))
  simp only [List.setIfInBounds_toArray, List.set_cons_succ, List.set_cons_zero] at bb
  have Bwz := Lib.hid (bb)
  have Rwz := Lib.hid (Rw7.out.ex ee (by have := NE.out; omega))
  have Kwz := Lib.hid (Kw7.out.ex ee (by have := NE.out; omega) (by have := NE.out; omega))
  have Xwz := Lib.hid (Xw7.out.trans (ee.mono (fun k hk => .inr (.inr (.inl hk)))))
  clear ee bb Bw7 Rw7 Kw7 Xw7
  first | rw [goOn_ret] | skip
  go_ret
  rw [HVV.out, Int.toNat_natCast]
  have hln : (got.set j v).length = got.length := by rw [List.length_set]
  exact ⟨rfl, Kwz.out, ⟨by rw [hln]; exact Bwz.out, Rwz.out, NE.out.2⟩, Xwz.out⟩

set_option maxRecDepth 100000 in
set_option maxHeartbeats 4000000 in
theorem R_kept (g h o r : Nat) (ws : List Int) (t : Int) (s : Spot) (tries had gen nn begun steps : Int) (got : List Int) (w : World) (hb : BankAt w g h ws t) (ho : RdAt w o r s tries ⟨0, 2, had, gen, nn, begun, steps⟩ got) (hi : RInv s tries ⟨0, 2, had, gen, nn, begun, steps⟩ got)
    (ne : o ≠ g ∧ o ≠ h ∧ r ≠ g ∧ r ≠ h) (hin : inW ws s.seq) (hk : keptB (wordF ws s.seq) gen s.depth = true) :
    Calls Try.prog 16 #[.pointer (some ⟨o, 0, none⟩), .pointer (some ⟨g, 0, none⟩)] w fun e w' => e = .returned (.int .i64 (RS.how ⟨1, 2, had, gen, nn, begun, steps + 1⟩)) ∧ BankAt w' g h ws (tickF ws (s.seq) t) ∧ RdAt w' o r s tries ⟨1, 2, had, gen, nn, begun, steps + 1⟩ (got) ∧ Ex (fun k => k = g ∨ k = h ∨ k = o ∨ k = r) w w' := by
  have B0 := Lib.hid ho.head
  have R0 := Lib.hid ho.row
  have K0 := Lib.hid hb
  have X0 := Lib.hid (Ex.refl (fun k => k = g ∨ k = h ∨ k = o ∨ k = r) w)
  have HI := Lib.hid hi
  have NE := Lib.hid (show (o ≠ g ∧ o ≠ h ∧ r ≠ g ∧ r ≠ h) ∧ o ≠ r from ⟨ne, ho.ne⟩)
  unfold rCs at B0
  simp only at B0
  have HIN := Lib.hid hin
  have HK := Lib.hid hk
  have HAT := Lib.hid (at_any o r s tries _ got w ho hi)
  have HRG := Lib.hid (fun i => wordF_range hb i)
  unfold atR at HAT
  simp only [if_true, if_false] at HAT
  clear ho hb hi ne hin hk
  have q0 := B0.out.cell 0
  have q12 := B0.out.cell 12
  simp only [List.getElem?_toArray, List.getElem?_cons_succ, List.getElem?_cons_zero] at q0 q12
  go_enter Try.func16, Try.ntmps16
  go_wp2_with fail
  refine wp_scope_ahead 1 (fun c0 HC => ?_)
  go_wp2_with fail
  refine HAT.out.mono ?_; rintro e w1 ⟨rfl, hb1⟩
  clear HAT
  clear q0 q12
  have Bw1 := Lib.hid (B0.out.bl hb1)
  have Rw1 := Lib.hid (R0.out.bl hb1)
  have Kw1 := Lib.hid (K0.out.below hb1)
  have Xw1 := Lib.hid (X0.out.trans (Ex.of_below hb1))
  clear hb1 B0 R0 K0 X0
  go_wp2_with fail
  refine (Load_any g h ws t (s.seq) w1 Kw1.out).mono ?_; rintro e w2 ⟨rfl, hb1, hx1⟩
  rw [errF_in HIN.out]
  have ee := Ex.of_ex2 (T := fun k => k = g ∨ k = h) hx1 (.inl rfl) (.inr rfl)
  have Bw2 := Lib.hid (Bw1.out.ex ee (by have := NE.out; omega))
  have Rw2 := Lib.hid (Rw1.out.ex ee (by have := NE.out; omega))
  have Kw2 := Lib.hid (hb1)
  have Xw2 := Lib.hid (Xw1.out.trans (ee.mono (fun k hk => hk.elim .inl (fun h => .inr (.inl h)))))
  clear ee hb1 hx1 Bw1 Rw1 Kw1 Xw1
  generalize hvv : wordF ws (s.seq) = v at *
  have HVV := Lib.hid hvv
  have HR := Lib.hid (show 0 ≤ v ∧ v ≤ 18446744073709551615 by rw [← hvv]; exact HRG.out _)
  clear hvv
  have q0 := Bw2.out.cell 0
  have q6 := Bw2.out.cell 6
  have q11 := Bw2.out.cell 11
  simp only [List.getElem?_toArray, List.getElem?_cons_succ, List.getElem?_cons_zero] at q0 q6 q11
  have f11 := Bw2.out.frozen 11
  have hst : wrap64 (steps + 1) = steps + 1 := HI.out.wst
  go_upto_region 18 with fail
  clear q0 q6 q11 f11
  have ee := ((Ex.refl (fun k => k = o) w2).setCell (q := ⟨o, 11, none⟩) (.inl rfl) (.int .i64 (steps + 1)))
  have bb := (Bw2.out.set_ 11 (.int .i64 (steps + 1)))
  simp only [List.setIfInBounds_toArray, List.set_cons_succ, List.set_cons_zero] at bb
  have Bw3 := Lib.hid (bb)
  have Rw3 := Lib.hid (Rw2.out.ex ee (by have := NE.out; omega))
  have Kw3 := Lib.hid (Kw2.out.ex ee (by have := NE.out; omega) (by have := NE.out; omega))
  have Xw3 := Lib.hid (Xw2.out.trans (ee.mono (fun k hk => .inr (.inr (.inl hk)))))
  clear ee bb Bw2 Rw2 Kw2 Xw2
  generalize (w2.setCell ⟨o, 11, none⟩ (.int .i64 (steps + 1))) = w3 at *
  have hne : Nonempty (Held (Below w3.heap.size w3)) := ⟨⟨w3, Below.refl _ _⟩⟩
  have p0 : ∀ y : Held (Below w3.heap.size w3), y.w.cell? ⟨o, 0, none⟩ = some (.int .i64 s.owners) := fun y => (Bw3.out.bl y.ok).cell 0
  have p4 : ∀ y : Held (Below w3.heap.size w3), y.w.cell? ⟨o, 4, none⟩ = some (.int .i64 s.depth) := fun y => (Bw3.out.bl y.ok).cell 4
  have p7 : ∀ y : Held (Below w3.heap.size w3), y.w.cell? ⟨o, 7, none⟩ = some (.int .u64 gen) := fun y => (Bw3.out.bl y.ok).cell 7
  refine drawn_bars (S := Below w3.heap.size w3) [([0, 1, 2, 3, 4, 5, 6, 7, 8, 9], 10)] [] (by kernel_rfl) (by kernel_rfl) (by kernel_rfl) rfl (Below.refl _ _).drew ?_
  refine Phased.go ?_
  simp only [pick, List.map_cons, List.map_nil, List.getElem?_cons_zero, List.getElem?_cons_succ, Option.getD_some]
  repeat (go_big_quiet_step (fail))
  refine wpQuiet_nil ?_
  go_wp2_with fail
  refine (Kept_any v gen s.depth _ HR.out).mono ?_; rintro e w4 ⟨rfl, rfl⟩
  have HKK := Lib.hid (show keptB v gen s.depth = true from HK.out)
  rw [HKK.out]
  go_wp2_with fail
  clear hne p0 p4 p7
  refine behind_normal ⟨Below w3.heap.size w3, fun W h => h, (Below.refl _ _).drew, ?_⟩
  refine Phased.end_ ?_
  have hne4 : Nonempty (Held (fun W => W = w3.drew)) := ⟨⟨_, rfl⟩⟩
  simp only [pick, List.map_cons, List.map_nil, List.getElem?_cons_zero, List.getElem?_cons_succ, Option.getD_some]
  repeat (go_big_quiet_step (fail))
  refine wpQuiet_nil ?_
  clear hne4
  have Bw4 := Lib.hid (show Blk w3.drew o 82 _ from Bw3.out)
  have Rw4 := Lib.hid (show Row w3.drew r got from Rw3.out)
  have Kw4 := Lib.hid (Kw3.out.below (Below.refl _ w3).drew)
  have Xw4 := Lib.hid (Xw3.out.trans (Ex.refl _ w3).drew)
  clear Bw3 Rw3 Kw3 Xw3
  generalize w3.drew = w4 at *
  have q0 := Bw4.out.cell 0
  have q12 := Bw4.out.cell 12
  simp only [List.getElem?_toArray, List.getElem?_cons_succ, List.getElem?_cons_zero] at q0 q12
  have f12 := Bw4.out.frozen 12
  go_wp2_with fail
  refine wp_goto ?_
  show goOn Try.prog c0 _ 1 (.goto 0) _ _
  refine goOn_jump HC rfl ?_
  go_wp2_with fail
  clear q0 q12 f12
  have ee := ((Ex.refl (fun k => k = o) w4).setCell (q := ⟨o, 12, none⟩) (.inl rfl) (.int .i64 1))
  have bb := (Bw4.out.set_ 12 (.int .i64 1))
  simp only [List.setIfInBounds_toArray, List.set_cons_succ, List.set_cons_zero] at bb
  have Bwz := Lib.hid (bb)
  have Rwz := Lib.hid (Rw4.out.ex ee (by have := NE.out; omega))
  have Kwz := Lib.hid (Kw4.out.ex ee (by have := NE.out; omega) (by have := NE.out; omega))
  have Xwz := Lib.hid (Xw4.out.trans (ee.mono (fun k hk => .inr (.inr (.inl hk)))))
  clear ee bb Bw4 Rw4 Kw4 Xw4
  first | rw [goOn_ret] | skip
  go_ret
  exact ⟨rfl, Kwz.out, ⟨Bwz.out, Rwz.out, NE.out.2⟩, Xwz.out⟩

set_option maxRecDepth 100000 in
set_option maxHeartbeats 4000000 in
theorem R_spent (g h o r : Nat) (ws : List Int) (t : Int) (s : Spot) (tries had gen nn begun steps : Int) (got : List Int) (w : World) (hb : BankAt w g h ws t) (ho : RdAt w o r s tries ⟨0, 2, had, gen, nn, begun, steps⟩ got) (hi : RInv s tries ⟨0, 2, had, gen, nn, begun, steps⟩ got)
    (ne : o ≠ g ∧ o ≠ h ∧ r ≠ g ∧ r ≠ h) (hin : inW ws s.seq) (hk : keptB (wordF ws s.seq) gen s.depth = false) (hv : had + 1 = tries) :
    Calls Try.prog 16 #[.pointer (some ⟨o, 0, none⟩), .pointer (some ⟨g, 0, none⟩)] w fun e w' => e = .returned (.int .i64 (RS.how ⟨2, 0, had + 1, gen, nn, begun, steps + 1⟩)) ∧ BankAt w' g h ws (tickF ws (s.seq) t) ∧ RdAt w' o r s tries ⟨2, 0, had + 1, gen, nn, begun, steps + 1⟩ (got) ∧ Ex (fun k => k = g ∨ k = h ∨ k = o ∨ k = r) w w' := by
  have B0 := Lib.hid ho.head
  have R0 := Lib.hid ho.row
  have K0 := Lib.hid hb
  have X0 := Lib.hid (Ex.refl (fun k => k = g ∨ k = h ∨ k = o ∨ k = r) w)
  have HI := Lib.hid hi
  have NE := Lib.hid (show (o ≠ g ∧ o ≠ h ∧ r ≠ g ∧ r ≠ h) ∧ o ≠ r from ⟨ne, ho.ne⟩)
  unfold rCs at B0
  simp only at B0
  have HIN := Lib.hid hin
  have HK := Lib.hid hk
  have HV := Lib.hid hv
  have HAT := Lib.hid (at_any o r s tries _ got w ho hi)
  have HRG := Lib.hid (fun i => wordF_range hb i)
  unfold atR at HAT
  simp only [if_true, if_false] at HAT
  clear ho hb hi ne hin hk hv
  have q0 := B0.out.cell 0
  have q12 := B0.out.cell 12
  simp only [List.getElem?_toArray, List.getElem?_cons_succ, List.getElem?_cons_zero] at q0 q12
  go_enter Try.func16, Try.ntmps16
  go_wp2_with fail
  refine wp_scope_ahead 1 (fun c0 HC => ?_)
  go_wp2_with fail
  refine HAT.out.mono ?_; rintro e w1 ⟨rfl, hb1⟩
  clear HAT
  clear q0 q12
  have Bw1 := Lib.hid (B0.out.bl hb1)
  have Rw1 := Lib.hid (R0.out.bl hb1)
  have Kw1 := Lib.hid (K0.out.below hb1)
  have Xw1 := Lib.hid (X0.out.trans (Ex.of_below hb1))
  clear hb1 B0 R0 K0 X0
  go_wp2_with fail
  refine (Load_any g h ws t (s.seq) w1 Kw1.out).mono ?_; rintro e w2 ⟨rfl, hb1, hx1⟩
  rw [errF_in HIN.out]
  have ee := Ex.of_ex2 (T := fun k => k = g ∨ k = h) hx1 (.inl rfl) (.inr rfl)
  have Bw2 := Lib.hid (Bw1.out.ex ee (by have := NE.out; omega))
  have Rw2 := Lib.hid (Rw1.out.ex ee (by have := NE.out; omega))
  have Kw2 := Lib.hid (hb1)
  have Xw2 := Lib.hid (Xw1.out.trans (ee.mono (fun k hk => hk.elim .inl (fun h => .inr (.inl h)))))
  clear ee hb1 hx1 Bw1 Rw1 Kw1 Xw1
  generalize hvv : wordF ws (s.seq) = v at *
  have HVV := Lib.hid hvv
  have HR := Lib.hid (show 0 ≤ v ∧ v ≤ 18446744073709551615 by rw [← hvv]; exact HRG.out _)
  clear hvv
  have q0 := Bw2.out.cell 0
  have q6 := Bw2.out.cell 6
  have q11 := Bw2.out.cell 11
  simp only [List.getElem?_toArray, List.getElem?_cons_succ, List.getElem?_cons_zero] at q0 q6 q11
  have f11 := Bw2.out.frozen 11
  have hst : wrap64 (steps + 1) = steps + 1 := HI.out.wst
  go_upto_region 18 with fail
  clear q0 q6 q11 f11
  have ee := ((Ex.refl (fun k => k = o) w2).setCell (q := ⟨o, 11, none⟩) (.inl rfl) (.int .i64 (steps + 1)))
  have bb := (Bw2.out.set_ 11 (.int .i64 (steps + 1)))
  simp only [List.setIfInBounds_toArray, List.set_cons_succ, List.set_cons_zero] at bb
  have Bw3 := Lib.hid (bb)
  have Rw3 := Lib.hid (Rw2.out.ex ee (by have := NE.out; omega))
  have Kw3 := Lib.hid (Kw2.out.ex ee (by have := NE.out; omega) (by have := NE.out; omega))
  have Xw3 := Lib.hid (Xw2.out.trans (ee.mono (fun k hk => .inr (.inr (.inl hk)))))
  clear ee bb Bw2 Rw2 Kw2 Xw2
  generalize (w2.setCell ⟨o, 11, none⟩ (.int .i64 (steps + 1))) = w3 at *
  have hne : Nonempty (Held (Below w3.heap.size w3)) := ⟨⟨w3, Below.refl _ _⟩⟩
  have p0 : ∀ y : Held (Below w3.heap.size w3), y.w.cell? ⟨o, 0, none⟩ = some (.int .i64 s.owners) := fun y => (Bw3.out.bl y.ok).cell 0
  have p4 : ∀ y : Held (Below w3.heap.size w3), y.w.cell? ⟨o, 4, none⟩ = some (.int .i64 s.depth) := fun y => (Bw3.out.bl y.ok).cell 4
  have p7 : ∀ y : Held (Below w3.heap.size w3), y.w.cell? ⟨o, 7, none⟩ = some (.int .u64 gen) := fun y => (Bw3.out.bl y.ok).cell 7
  refine drawn_bars (S := Below w3.heap.size w3) [([0, 1, 2, 3, 4, 5, 6, 7, 8, 9], 10)] [] (by kernel_rfl) (by kernel_rfl) (by kernel_rfl) rfl (Below.refl _ _).drew ?_
  refine Phased.go ?_
  simp only [pick, List.map_cons, List.map_nil, List.getElem?_cons_zero, List.getElem?_cons_succ, Option.getD_some]
  repeat (go_big_quiet_step (fail))
  refine wpQuiet_nil ?_
  go_wp2_with fail
  refine (Kept_any v gen s.depth _ HR.out).mono ?_; rintro e w4 ⟨rfl, rfl⟩
  have HKK := Lib.hid (show keptB v gen s.depth = false from HK.out)
  rw [HKK.out]
  go_wp2_with fail
  clear hne p0 p4 p7
  refine behind_normal ⟨Below w3.heap.size w3, fun W h => h, (Below.refl _ _).drew, ?_⟩
  refine Phased.end_ ?_
  have hne4 : Nonempty (Held (fun W => W = w3.drew)) := ⟨⟨_, rfl⟩⟩
  simp only [pick, List.map_cons, List.map_nil, List.getElem?_cons_zero, List.getElem?_cons_succ, Option.getD_some]
  repeat (go_big_quiet_step (fail))
  refine wpQuiet_nil ?_
  clear hne4
  have Bw4 := Lib.hid (show Blk w3.drew o 82 _ from Bw3.out)
  have Rw4 := Lib.hid (show Row w3.drew r got from Rw3.out)
  have Kw4 := Lib.hid (Kw3.out.below (Below.refl _ w3).drew)
  have Xw4 := Lib.hid (Xw3.out.trans (Ex.refl _ w3).drew)
  clear Bw3 Rw3 Kw3 Xw3
  generalize w3.drew = w4 at *
  have hl1 : wrap64 (tries - had - 1) = tries - had - 1 := wrap64_in _ (by have h1 := HI.out.had; have h2 := HI.out.tr; simp only at h1; omega)
  have hl2 : (tries - had - 1 == 0) = true := beq_iff_eq.2 (by have := HV.out; omega)
  have q0 := Bw4.out.cell 0
  have q5 := Bw4.out.cell 5
  have q6 := Bw4.out.cell 6
  have q12 := Bw4.out.cell 12
  simp only [List.getElem?_toArray, List.getElem?_cons_succ, List.getElem?_cons_zero] at q0 q5 q6 q12
  have f5 := Bw4.out.frozen 5
  have f6 := Bw4.out.frozen 6
  have f12 := Bw4.out.frozen 12
  go_wp2_with fail
  go_step3
  go_wp2_with fail
  clear q0 q5 q6 q12 f5 f6 f12
  have ee := ((((Ex.refl (fun k => k = o) w4).setCell (q := ⟨o, 6, none⟩) (.inl rfl) (.int .i64 0)).setCell (q := ⟨o, 5, none⟩) (.inl rfl) (.int .i64 (tries - had - 1))).setCell (q := ⟨o, 12, none⟩) (.inl rfl) (.int .i64 2))
  have bb := (((Bw4.out.set_ 6 (.int .i64 0)).set_ 5 (.int .i64 (tries - had - 1))).set_ 12 (.int .i64 2))
  simp only [List.setIfInBounds_toArray, List.set_cons_succ, List.set_cons_zero] at bb
  have Bwz := Lib.hid (bb)
  have Rwz := Lib.hid (Rw4.out.ex ee (by have := NE.out; omega))
  have Kwz := Lib.hid (Kw4.out.ex ee (by have := NE.out; omega) (by have := NE.out; omega))
  have Xwz := Lib.hid (Xw4.out.trans (ee.mono (fun k hk => .inr (.inr (.inl hk)))))
  clear ee bb Bw4 Rw4 Kw4 Xw4
  first | rw [goOn_ret] | skip
  go_ret
  refine ⟨rfl, Kwz.out, ⟨?_, Rwz.out, NE.out.2⟩, Xwz.out⟩
  unfold rCs
  simp only
  rw [show tries - (had + 1) = tries - had - 1 by omega]
  exact Bwz.out

set_option maxRecDepth 100000 in
set_option maxHeartbeats 4000000 in
theorem R_again (g h o r : Nat) (ws : List Int) (t : Int) (s : Spot) (tries had gen nn begun steps : Int) (got : List Int) (w : World) (hb : BankAt w g h ws t) (ho : RdAt w o r s tries ⟨0, 2, had, gen, nn, begun, steps⟩ got) (hi : RInv s tries ⟨0, 2, had, gen, nn, begun, steps⟩ got)
    (ne : o ≠ g ∧ o ≠ h ∧ r ≠ g ∧ r ≠ h) (hin : inW ws s.seq) (hk : keptB (wordF ws s.seq) gen s.depth = false) (hv : ¬ had + 1 = tries) :
    Calls Try.prog 16 #[.pointer (some ⟨o, 0, none⟩), .pointer (some ⟨g, 0, none⟩)] w fun e w' => e = .returned (.int .i64 (RS.how ⟨0, 0, had + 1, gen, nn, begun, steps + 1⟩)) ∧ BankAt w' g h ws (tickF ws (s.seq) t) ∧ RdAt w' o r s tries ⟨0, 0, had + 1, gen, nn, begun, steps + 1⟩ (got) ∧ Ex (fun k => k = g ∨ k = h ∨ k = o ∨ k = r) w w' := by
  have B0 := Lib.hid ho.head
  have R0 := Lib.hid ho.row
  have K0 := Lib.hid hb
  have X0 := Lib.hid (Ex.refl (fun k => k = g ∨ k = h ∨ k = o ∨ k = r) w)
  have HI := Lib.hid hi
  have NE := Lib.hid (show (o ≠ g ∧ o ≠ h ∧ r ≠ g ∧ r ≠ h) ∧ o ≠ r from ⟨ne, ho.ne⟩)
  unfold rCs at B0
  simp only at B0
  have HIN := Lib.hid hin
  have HK := Lib.hid hk
  have HV := Lib.hid hv
  have HAT := Lib.hid (at_any o r s tries _ got w ho hi)
  have HRG := Lib.hid (fun i => wordF_range hb i)
  unfold atR at HAT
  simp only [if_true, if_false] at HAT
  clear ho hb hi ne hin hk hv
  have q0 := B0.out.cell 0
  have q12 := B0.out.cell 12
  simp only [List.getElem?_toArray, List.getElem?_cons_succ, List.getElem?_cons_zero] at q0 q12
  go_enter Try.func16, Try.ntmps16
  go_wp2_with fail
  refine wp_scope_ahead 1 (fun c0 HC => ?_)
  go_wp2_with fail
  refine HAT.out.mono ?_; rintro e w1 ⟨rfl, hb1⟩
  clear HAT
  clear q0 q12
  have Bw1 := Lib.hid (B0.out.bl hb1)
  have Rw1 := Lib.hid (R0.out.bl hb1)
  have Kw1 := Lib.hid (K0.out.below hb1)
  have Xw1 := Lib.hid (X0.out.trans (Ex.of_below hb1))
  clear hb1 B0 R0 K0 X0
  go_wp2_with fail
  refine (Load_any g h ws t (s.seq) w1 Kw1.out).mono ?_; rintro e w2 ⟨rfl, hb1, hx1⟩
  rw [errF_in HIN.out]
  have ee := Ex.of_ex2 (T := fun k => k = g ∨ k = h) hx1 (.inl rfl) (.inr rfl)
  have Bw2 := Lib.hid (Bw1.out.ex ee (by have := NE.out; omega))
  have Rw2 := Lib.hid (Rw1.out.ex ee (by have := NE.out; omega))
  have Kw2 := Lib.hid (hb1)
  have Xw2 := Lib.hid (Xw1.out.trans (ee.mono (fun k hk => hk.elim .inl (fun h => .inr (.inl h)))))
  clear ee hb1 hx1 Bw1 Rw1 Kw1 Xw1
  generalize hvv : wordF ws (s.seq) = v at *
  have HVV := Lib.hid hvv
  have HR := Lib.hid (show 0 ≤ v ∧ v ≤ 18446744073709551615 by rw [← hvv]; exact HRG.out _)
  clear hvv
  have q0 := Bw2.out.cell 0
  have q6 := Bw2.out.cell 6
  have q11 := Bw2.out.cell 11
  simp only [List.getElem?_toArray, List.getElem?_cons_succ, List.getElem?_cons_zero] at q0 q6 q11
  have f11 := Bw2.out.frozen 11
  have hst : wrap64 (steps + 1) = steps + 1 := HI.out.wst
  go_upto_region 18 with fail
  clear q0 q6 q11 f11
  have ee := ((Ex.refl (fun k => k = o) w2).setCell (q := ⟨o, 11, none⟩) (.inl rfl) (.int .i64 (steps + 1)))
  have bb := (Bw2.out.set_ 11 (.int .i64 (steps + 1)))
  simp only [List.setIfInBounds_toArray, List.set_cons_succ, List.set_cons_zero] at bb
  have Bw3 := Lib.hid (bb)
  have Rw3 := Lib.hid (Rw2.out.ex ee (by have := NE.out; omega))
  have Kw3 := Lib.hid (Kw2.out.ex ee (by have := NE.out; omega) (by have := NE.out; omega))
  have Xw3 := Lib.hid (Xw2.out.trans (ee.mono (fun k hk => .inr (.inr (.inl hk)))))
  clear ee bb Bw2 Rw2 Kw2 Xw2
  generalize (w2.setCell ⟨o, 11, none⟩ (.int .i64 (steps + 1))) = w3 at *
  have hne : Nonempty (Held (Below w3.heap.size w3)) := ⟨⟨w3, Below.refl _ _⟩⟩
  have p0 : ∀ y : Held (Below w3.heap.size w3), y.w.cell? ⟨o, 0, none⟩ = some (.int .i64 s.owners) := fun y => (Bw3.out.bl y.ok).cell 0
  have p4 : ∀ y : Held (Below w3.heap.size w3), y.w.cell? ⟨o, 4, none⟩ = some (.int .i64 s.depth) := fun y => (Bw3.out.bl y.ok).cell 4
  have p7 : ∀ y : Held (Below w3.heap.size w3), y.w.cell? ⟨o, 7, none⟩ = some (.int .u64 gen) := fun y => (Bw3.out.bl y.ok).cell 7
  refine drawn_bars (S := Below w3.heap.size w3) [([0, 1, 2, 3, 4, 5, 6, 7, 8, 9], 10)] [] (by kernel_rfl) (by kernel_rfl) (by kernel_rfl) rfl (Below.refl _ _).drew ?_
  refine Phased.go ?_
  simp only [pick, List.map_cons, List.map_nil, List.getElem?_cons_zero, List.getElem?_cons_succ, Option.getD_some]
  repeat (go_big_quiet_step (fail))
  refine wpQuiet_nil ?_
  go_wp2_with fail
  refine (Kept_any v gen s.depth _ HR.out).mono ?_; rintro e w4 ⟨rfl, rfl⟩
  have HKK := Lib.hid (show keptB v gen s.depth = false from HK.out)
  rw [HKK.out]
  go_wp2_with fail
  clear hne p0 p4 p7
  refine behind_normal ⟨Below w3.heap.size w3, fun W h => h, (Below.refl _ _).drew, ?_⟩
  refine Phased.end_ ?_
  have hne4 : Nonempty (Held (fun W => W = w3.drew)) := ⟨⟨_, rfl⟩⟩
  simp only [pick, List.map_cons, List.map_nil, List.getElem?_cons_zero, List.getElem?_cons_succ, Option.getD_some]
  repeat (go_big_quiet_step (fail))
  refine wpQuiet_nil ?_
  clear hne4
  have Bw4 := Lib.hid (show Blk w3.drew o 82 _ from Bw3.out)
  have Rw4 := Lib.hid (show Row w3.drew r got from Rw3.out)
  have Kw4 := Lib.hid (Kw3.out.below (Below.refl _ w3).drew)
  have Xw4 := Lib.hid (Xw3.out.trans (Ex.refl _ w3).drew)
  clear Bw3 Rw3 Kw3 Xw3
  generalize w3.drew = w4 at *
  have hl1 : wrap64 (tries - had - 1) = tries - had - 1 := wrap64_in _ (by have h1 := HI.out.had; have h2 := HI.out.tr; simp only at h1; omega)
  have hl2 : (tries - had - 1 == 0) = false := beq_eq_false_iff_ne.2 (by have := HV.out; omega)
  have q0 := Bw4.out.cell 0
  have q5 := Bw4.out.cell 5
  have q6 := Bw4.out.cell 6
  have q12 := Bw4.out.cell 12
  simp only [List.getElem?_toArray, List.getElem?_cons_succ, List.getElem?_cons_zero] at q0 q5 q6 q12
  have f5 := Bw4.out.frozen 5
  have f6 := Bw4.out.frozen 6
  go_wp2_with fail
  go_step3
  go_wp2_with fail
  clear q0 q5 q6 q12 f5 f6
  have ee := (((Ex.refl (fun k => k = o) w4).setCell (q := ⟨o, 6, none⟩) (.inl rfl) (.int .i64 0)).setCell (q := ⟨o, 5, none⟩) (.inl rfl) (.int .i64 (tries - had - 1)))
  have bb := ((Bw4.out.set_ 6 (.int .i64 0)).set_ 5 (.int .i64 (tries - had - 1)))
  simp only [List.setIfInBounds_toArray, List.set_cons_succ, List.set_cons_zero] at bb
  have Bwz := Lib.hid (bb)
  have Rwz := Lib.hid (Rw4.out.ex ee (by have := NE.out; omega))
  have Kwz := Lib.hid (Kw4.out.ex ee (by have := NE.out; omega) (by have := NE.out; omega))
  have Xwz := Lib.hid (Xw4.out.trans (ee.mono (fun k hk => .inr (.inr (.inl hk)))))
  clear ee bb Bw4 Rw4 Kw4 Xw4
  first | rw [goOn_ret] | skip
  go_ret
  refine ⟨rfl, Kwz.out, ⟨?_, Rwz.out, NE.out.2⟩, Xwz.out⟩
  unfold rCs
  simp only
  rw [show tries - (had + 1) = tries - had - 1 by omega]
  exact Bwz.out

set_option maxRecDepth 100000 in
theorem R_done (o r : Nat) (s : Spot) (tries : Int) (x : RS) (got : List Int) (v : Value) (w : World) (ho : RdAt w o r s tries x got) (hh : x.how ≠ 0) :
    Calls Try.prog 16 #[.pointer (some ⟨o, 0, none⟩), v] w fun e w' => e = .returned (.int .i64 x.how) ∧ w = w' := by
  have q0 := ho.head.cell 0
  have q12 := ho.head.cell 12
  simp only [rCs, List.getElem?_toArray, List.getElem?_cons_succ, List.getElem?_cons_zero] at q0 q12
  have hd : (x.how != 0) = true := by simpa using hh
  clear ho hh
  go_enter Try.func16, Try.ntmps16
  go_wp2_with fail
  refine wp_scope_ahead 1 (fun c0 HC => ?_)
  go_wp2_with fail
  first | rw [goOn_ret] | skip
  go_ret
  exact ⟨rfl, rfl⟩
set_option maxRecDepth 100000 in
theorem R_none (v : Value) (w : World) :
    Calls Try.prog 16 #[.pointer none, v] w fun e w' => e = .returned (.int .i64 3) ∧ w = w' := by
  go_enter Try.func16, Try.ntmps16
  go_wp2_with fail
  refine wp_scope_ahead 1 (fun c0 HC => ?_)
  go_wp2_with fail
  first | rw [goOn_ret] | skip
  go_ret
  exact ⟨rfl, rfl⟩

set_option maxRecDepth 100000 in
set_option maxHeartbeats 4000000 in
theorem R_nobank (g h o r : Nat) (ws : List Int) (t : Int) (s : Spot) (tries had gen nn begun steps : Int) (got : List Int) (w : World) (hb : BankAt w g h ws t) (ho : RdAt w o r s tries ⟨0, 0, had, gen, nn, begun, steps⟩ got) (hi : RInv s tries ⟨0, 0, had, gen, nn, begun, steps⟩ got)
    (ne : o ≠ g ∧ o ≠ h ∧ r ≠ g ∧ r ≠ h) :
    Calls Try.prog 16 #[.pointer (some ⟨o, 0, none⟩), .pointer none] w fun e w' => e = .returned (.int .i64 (RS.how ⟨3, 0, had, gen, nn, begun, steps⟩)) ∧ BankAt w' g h ws t ∧ RdAt w' o r s tries ⟨3, 0, had, gen, nn, begun, steps⟩ (got) ∧ Ex (fun k => k = g ∨ k = h ∨ k = o ∨ k = r) w w' := by
  have B0 := Lib.hid ho.head
  have R0 := Lib.hid ho.row
  have K0 := Lib.hid hb
  have X0 := Lib.hid (Ex.refl (fun k => k = g ∨ k = h ∨ k = o ∨ k = r) w)
  have HI := Lib.hid hi
  have NE := Lib.hid (show (o ≠ g ∧ o ≠ h ∧ r ≠ g ∧ r ≠ h) ∧ o ≠ r from ⟨ne, ho.ne⟩)
  unfold rCs at B0
  simp only at B0
  have HAT := Lib.hid (at_any o r s tries _ got w ho hi)
  have HRG := Lib.hid (fun i => wordF_range hb i)
  unfold atR at HAT
  simp only [if_true, if_false] at HAT
  clear ho hb hi ne 
  have q0 := B0.out.cell 0
  have q12 := B0.out.cell 12
  simp only [List.getElem?_toArray, List.getElem?_cons_succ, List.getElem?_cons_zero] at q0 q12
  go_enter Try.func16, Try.ntmps16
  go_wp2_with fail
  refine wp_scope_ahead 1 (fun c0 HC => ?_)
  go_wp2_with fail
  refine HAT.out.mono ?_; rintro e w1 ⟨rfl, hb1⟩
  clear HAT
  clear q0 q12
  have Bw1 := Lib.hid (B0.out.bl hb1)
  have Rw1 := Lib.hid (R0.out.bl hb1)
  have Kw1 := Lib.hid (K0.out.below hb1)
  have Xw1 := Lib.hid (X0.out.trans (Ex.of_below hb1))
  clear hb1 B0 R0 K0 X0
  go_wp2_with fail
  refine (Load_nil s.seq w1).mono ?_; rintro e w2 ⟨rfl, hb2⟩
  have Bw2 := Lib.hid (Bw1.out.bl hb2)
  have Rw2 := Lib.hid (Rw1.out.bl hb2)
  have Kw2 := Lib.hid (Kw1.out.below hb2)
  have Xw2 := Lib.hid (Xw1.out.trans (Ex.of_below hb2))
  clear hb2 Bw1 Rw1 Kw1 Xw1
  have q0 := Bw2.out.cell 0
  have q12 := Bw2.out.cell 12
  simp only [List.getElem?_toArray, List.getElem?_cons_succ, List.getElem?_cons_zero] at q0 q12
  have f12 := Bw2.out.frozen 12
  go_wp2_with fail
  clear q0 q12 f12
  have ee := ((Ex.refl (fun k => k = o) w2).setCell (q := ⟨o, 12, none⟩) (.inl rfl) (.int .i64 3))
  have bb := (Bw2.out.set_ 12 (.int .i64 3))
  simp only [List.setIfInBounds_toArray, List.set_cons_succ, List.set_cons_zero] at bb
  have Bwz := Lib.hid (bb)
  have Rwz := Lib.hid (Rw2.out.ex ee (by have := NE.out; omega))
  have Kwz := Lib.hid (Kw2.out.ex ee (by have := NE.out; omega) (by have := NE.out; omega))
  have Xwz := Lib.hid (Xw2.out.trans (ee.mono (fun k hk => .inr (.inr (.inl hk)))))
  clear ee bb Bw2 Rw2 Kw2 Xw2
  first | rw [goOn_ret] | skip
  go_ret
  exact ⟨rfl, Kwz.out, ⟨Bwz.out, Rwz.out, NE.out.2⟩, Xwz.out⟩

/-- what a step makes of the reading, its words, and how many accesses there were -/
def rdStep (s : Spot) (tries : Int) (x : RS) (got ws : List Int) (t : Int) : RS × List Int × Int :=
  if x.how ≠ 0 then (x, got, t)
  else if x.next = 1 then
    if inW ws (placeR s x.gen x.n) then (⟨0, if x.n + 1 = (got.length : Int) then 2 else 1, x.had, x.gen, x.n + 1, x.begun, x.steps + 1⟩, got.set x.n.toNat (wordF ws (placeR s x.gen x.n)), tickF ws (placeR s x.gen x.n) t)
    else (⟨3, 1, x.had, x.gen, x.n, x.begun, x.steps⟩, got, tickF ws (placeR s x.gen x.n) t)
  else if x.next = 0 then
    if inW ws s.seq then (⟨0, 1, x.had, wordF ws s.seq / 2, 0, x.steps + 1, x.steps + 1⟩, got, tickF ws s.seq t)
    else (⟨3, 0, x.had, x.gen, x.n, x.begun, x.steps⟩, got, tickF ws s.seq t)
  else
    if inW ws s.seq then
      if keptB (wordF ws s.seq) x.gen s.depth = true then (⟨1, 2, x.had, x.gen, x.n, x.begun, x.steps + 1⟩, got, tickF ws s.seq t)
      else (⟨if x.had + 1 = tries then 2 else 0, 0, x.had + 1, x.gen, x.n, x.begun, x.steps + 1⟩, got, tickF ws s.seq t)
    else (⟨3, 2, x.had, x.gen, x.n, x.begun, x.steps⟩, got, tickF ws s.seq t)
theorem RStep_any (g h o r : Nat) (ws : List Int) (t : Int) (s : Spot) (tries : Int) (x : RS) (got : List Int) (w : World) (hb : BankAt w g h ws t) (ho : RdAt w o r s tries x got) (hi : RInv s tries x got)
    (ne : o ≠ g ∧ o ≠ h ∧ r ≠ g ∧ r ≠ h) :
    Calls Try.prog 16 #[.pointer (some ⟨o, 0, none⟩), .pointer (some ⟨g, 0, none⟩)] w fun e w' => e = .returned (.int .i64 (rdStep s tries x got ws t).1.how) ∧ BankAt w' g h ws (rdStep s tries x got ws t).2.2 ∧ RdAt w' o r s tries (rdStep s tries x got ws t).1 (rdStep s tries x got ws t).2.1 ∧ Ex (fun k => k = g ∨ k = h ∨ k = o ∨ k = r) w w' := by
  by_cases hh : x.how = 0
  · have hnx := hi.next
    obtain ⟨how, next, had, gen, nn, begun, steps⟩ := x
    simp only at hh hnx
    subst hh
    rcases hnx with rfl | rfl | rfl
    · by_cases hin : inW ws s.seq
      · have := R_first g h o r ws t s tries had gen nn begun steps got w hb ho hi ne hin
        rw [show rdStep s tries ⟨0, 0, had, gen, nn, begun, steps⟩ got ws t = (⟨0, 1, had, wordF ws s.seq / 2, 0, steps + 1, steps + 1⟩, got, tickF ws s.seq t) from by simp [rdStep, hin]]
        exact this
      · have := R_out0 g h o r ws t s tries had gen nn begun steps got w hb ho hi ne hin
        rw [show rdStep s tries ⟨0, 0, had, gen, nn, begun, steps⟩ got ws t = (⟨3, 0, had, gen, nn, begun, steps⟩, got, tickF ws s.seq t) from by simp [rdStep, hin]]
        exact this
    · by_cases hin : inW ws (placeR s gen nn)
      · by_cases hv : nn + 1 = (got.length : Int)
        · have := R_last g h o r ws t s tries had gen nn begun steps got w hb ho hi ne hin hv
          rw [show rdStep s tries ⟨0, 1, had, gen, nn, begun, steps⟩ got ws t = (⟨0, 2, had, gen, nn + 1, begun, steps + 1⟩, got.set nn.toNat (wordF ws (placeR s gen nn)), tickF ws (placeR s gen nn) t) from by simp [rdStep, hin, hv]]
          exact this
        · have := R_more g h o r ws t s tries had gen nn begun steps got w hb ho hi ne hin hv
          rw [show rdStep s tries ⟨0, 1, had, gen, nn, begun, steps⟩ got ws t = (⟨0, 1, had, gen, nn + 1, begun, steps + 1⟩, got.set nn.toNat (wordF ws (placeR s gen nn)), tickF ws (placeR s gen nn) t) from by simp [rdStep, hin, hv]]
          exact this
      · have := R_out1 g h o r ws t s tries had gen nn begun steps got w hb ho hi ne hin
        rw [show rdStep s tries ⟨0, 1, had, gen, nn, begun, steps⟩ got ws t = (⟨3, 1, had, gen, nn, begun, steps⟩, got, tickF ws (placeR s gen nn) t) from by simp [rdStep, hin]]
        exact this
    · by_cases hin : inW ws s.seq
      · cases hk : keptB (wordF ws s.seq) gen s.depth with
        | true =>
          have := R_kept g h o r ws t s tries had gen nn begun steps got w hb ho hi ne hin hk
          rw [show rdStep s tries ⟨0, 2, had, gen, nn, begun, steps⟩ got ws t = (⟨1, 2, had, gen, nn, begun, steps + 1⟩, got, tickF ws s.seq t) from by simp [rdStep, hin, hk]]
          exact this
        | false =>
          by_cases hv : had + 1 = tries
          · have := R_spent g h o r ws t s tries had gen nn begun steps got w hb ho hi ne hin hk hv
            rw [show rdStep s tries ⟨0, 2, had, gen, nn, begun, steps⟩ got ws t = (⟨2, 0, had + 1, gen, nn, begun, steps + 1⟩, got, tickF ws s.seq t) from by simp [rdStep, hin, hk, hv]]
            exact this
          · have := R_again g h o r ws t s tries had gen nn begun steps got w hb ho hi ne hin hk hv
            rw [show rdStep s tries ⟨0, 2, had, gen, nn, begun, steps⟩ got ws t = (⟨0, 0, had + 1, gen, nn, begun, steps + 1⟩, got, tickF ws s.seq t) from by simp [rdStep, hin, hk, hv]]
            exact this
      · have := R_out2 g h o r ws t s tries had gen nn begun steps got w hb ho hi ne hin
        rw [show rdStep s tries ⟨0, 2, had, gen, nn, begun, steps⟩ got ws t = (⟨3, 2, had, gen, nn, begun, steps⟩, got, tickF ws s.seq t) from by simp [rdStep, hin]]
        exact this
  · have e : rdStep s tries x got ws t = (x, got, t) := by unfold rdStep; rw [if_pos hh]
    rw [e]
    exact (R_done o r s tries x got _ w ho hh).mono fun _ _ ⟨he, hw⟩ => ⟨he, hw ▸ hb, hw ▸ ho, hw ▸ Ex.refl _ w⟩
theorem got_fit {got : List Int} (h : ∀ y ∈ got, 0 ≤ y ∧ y ≤ 18446744073709551615) (i : Nat) (v : Int) (hv : 0 ≤ v ∧ v ≤ 18446744073709551615) : ∀ y ∈ got.set i v, 0 ≤ y ∧ y ≤ 18446744073709551615 := fun y hy => by
  rcases List.mem_or_eq_of_mem_set hy with h1 | h1
  · exact h y h1
  · subst h1; exact hv
/-- what a step keeps -/
theorem RInv.step {s : Spot} {tries : Int} {x : RS} {got : List Int} (ws : List Int) (t : Int) (hf : ∀ y ∈ ws, 0 ≤ y ∧ y ≤ 18446744073709551615) (h : RInv s tries x got) : RInv s tries (rdStep s tries x got ws t).1 (rdStep s tries x got ws t).2.1 := by
  have hw : ∀ i, 0 ≤ wordF ws i ∧ wordF ws i ≤ 18446744073709551615 := fun i => by
    unfold wordF
    split
    · rename_i hi
      exact hf _ (nth_mem (by have := hi.1; have := hi.2; omega))
    · omega
  by_cases hh : x.how = 0
  case neg =>
    rw [show rdStep s tries x got ws t = (x, got, t) by unfold rdStep; rw [if_pos hh]]
    exact h
  obtain ⟨right, tr, len, next, how, had, gen, n, steps, most, begun, fit⟩ := h
  obtain ⟨xhow, xnext, xhad, xgen, xn, xbegun, xsteps⟩ := x
  simp only at *
  subst hh
  have hr := right.1
  have st := steps rfl
  have hd := had.2.2 rfl
  -- the product, by how many tries there were
  have p0 : (s.words + 2) * xhad + (s.words + 2) ≤ (s.words + 2) * tries := by
    have : (s.words + 2) * (xhad + 1) ≤ (s.words + 2) * tries := Int.mul_le_mul_of_nonneg_left (by omega) (by omega)
    rw [Int.mul_add, Int.mul_one] at this
    exact this
  have p1 : (s.words + 2) * (xhad + 1) = (s.words + 2) * xhad + (s.words + 2) := by rw [Int.mul_add, Int.mul_one]
  have p2 : 0 ≤ (s.words + 2) * xhad := Int.mul_nonneg (by omega) had.1
  unfold rdStep
  simp only [ne_eq, not_true, if_false]
  rcases next with rfl | rfl | rfl
  · simp only [show ((0 : Int) = 1) = False by simp, if_false, if_true] at st ⊢
    split
    · refine ⟨right, tr, len, .inr (.inl rfl), .inl rfl, ⟨had.1, had.2.1, fun _ => hd⟩, ⟨by have := hw s.seq; simp only; omega, by have := hw s.seq; simp only; omega⟩, ⟨by simp, by simp only; omega, fun _ _ => by simp only; omega, fun _ h => by simp at h⟩, fun _ => ?_, ⟨?_, ?_⟩, ⟨?_, ?_⟩, fit⟩
      · simp only [show ((1 : Int) = 0) = False by simp, if_false]; omega
      all_goals simp only <;> omega
    · exact ⟨right, tr, len, .inl rfl, .inr (.inr (.inr rfl)), ⟨had.1, had.2.1, fun h => by simp at h⟩, gen, ⟨n.1, n.2.1, fun h => by simp at h, fun h => by simp at h⟩, fun h => by simp at h, most, begun, fit⟩
  · simp only [show ((1 : Int) = 0) = False by simp, if_false, if_true] at st ⊢
    have hn := n.2.2.1 rfl rfl
    split
    · refine ⟨right, tr, by rw [List.length_set]; exact len, ?_, .inl rfl, ⟨had.1, had.2.1, fun _ => hd⟩, gen, ⟨by simp only; omega, by simp only; omega, fun _ h => ?_, fun _ h => ?_⟩, fun _ => ?_, ⟨?_, ?_⟩, ⟨begun.1, ?_⟩, got_fit fit _ _ (hw _)⟩
      · simp only; split
        · exact .inr (.inr rfl)
        · exact .inr (.inl rfl)
      · simp only at h ⊢
        split at h
        · omega
        · omega
      · simp only at h ⊢
        split at h
        · omega
        · omega
      · simp only
        split <;> simp only [show ((2 : Int) = 0) = False by simp, show ((1 : Int) = 0) = False by simp, if_false] <;> omega
      all_goals simp only <;> omega
    · exact ⟨right, tr, len, .inr (.inl rfl), .inr (.inr (.inr rfl)), ⟨had.1, had.2.1, fun h => by simp at h⟩, gen, ⟨n.1, n.2.1, fun h => by simp at h, fun h => by simp at h⟩, fun h => by simp at h, most, begun, fit⟩
  · simp only [show ((2 : Int) = 0) = False by simp, show ((2 : Int) = 1) = False by simp, if_false, if_true] at st ⊢
    have hn := n.2.2.2 rfl rfl
    split
    · split
      · refine ⟨right, tr, len, .inr (.inr rfl), .inr (.inl rfl), ⟨had.1, had.2.1, fun h => by simp at h⟩, gen, ⟨n.1, n.2.1, fun h => by simp at h, fun h => by simp at h⟩, fun h => by simp at h, ⟨?_, ?_⟩, ⟨begun.1, ?_⟩, fit⟩
        all_goals simp only <;> omega
      · refine ⟨right, tr, len, .inl rfl, ?_, ⟨by simp only; omega, by simp only; omega, fun h => ?_⟩, gen, ⟨n.1, n.2.1, fun _ h => by simp at h, fun _ h => by simp at h⟩, fun _ => ?_, ⟨?_, ?_⟩, ⟨begun.1, ?_⟩, fit⟩
        · simp only; split
          · exact .inr (.inr (.inl rfl))
          · exact .inl rfl
        · simp only at h ⊢
          split at h
          · omega
          · omega
        · simp only [if_true]
          rw [p1]; omega
        all_goals simp only <;> omega
    · exact ⟨right, tr, len, .inr (.inr rfl), .inr (.inr (.inr rfl)), ⟨had.1, had.2.1, fun h => by simp at h⟩, gen, ⟨n.1, n.2.1, fun h => by simp at h, fun h => by simp at h⟩, fun h => by simp at h, most, begun, fit⟩
theorem rdStep_len (s : Spot) (tries : Int) (x : RS) (got ws : List Int) (t : Int) : (rdStep s tries x got ws t).2.1.length = got.length := by
  unfold rdStep
  repeat' split
  all_goals first | rfl | exact List.length_set

end Go.Proofs.Ytihogagnjikghaa.Bank
