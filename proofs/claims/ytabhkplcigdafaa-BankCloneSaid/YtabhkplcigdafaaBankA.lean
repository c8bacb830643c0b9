/-
  The bank's examples (chapter 1), walked. No condition. By an AI agent.
-/
import Derived.Test.YtabhkplcigdafaaBank
namespace Go.Proofs.Ytabhkplcigdafaa.Bank
set_option linter.unusedVariables false
set_option linter.unusedSimpArgs false
open Go Go.RowKit Go.Proofs.Ytabhkplcigdafaa.Base

/-- a bank of the call's own, and below it all is as it was -/
structure Own (w wk : World) (g h : Nat) (ws : List Int) (t : Int) : Prop where
  bank : BankAt wk g h ws t
  below : Below w.heap.size w wk
  hg : w.heap.size ≤ g
  hh : w.heap.size ≤ h
theorem Own.step {w a b : World} {g h : Nat} {ws ws' : List Int} {t t' : Int} (p : Own w a g h ws t) (q : BankAt b g h ws' t') (r : Ex2 g h a b) : Own w b g h ws' t' :=
  ⟨q, Ex2.below p.below r p.hg p.hh p.below.size, p.hg, p.hh⟩
theorem Own.go {w a b : World} {g h : Nat} {ws : List Int} {t : Int} (p : Own w a g h ws t) (r : Below a.heap.size a b) : Own w b g h ws t :=
  ⟨p.bank.below r, bl p.below r, p.hg, p.hh⟩
theorem Own.far {w a : World} {g h : Nat} {ws : List Int} {t : Int} (p : Own w a g h ws t) {N : Nat} (h0 : w.heap.size ≤ N) (h1 : N ≠ g) (h2 : N ≠ h) (i : Nat) (u : Value) : Own w (a.setCell ⟨N, i, none⟩ u) g h ws t :=
  ⟨⟨p.bank.head.far (p := ⟨N, i, none⟩) (Ne.symm h1) u, p.bank.row.far (p := ⟨N, i, none⟩) (Ne.symm h2) u, p.bank.len, p.bank.fit⟩, p.below.setCell (p := ⟨N, i, none⟩) h0 u, p.hg, p.hh⟩
theorem Own.drewN {w a : World} {g h : Nat} {ws : List Int} {t : Int} (p : Own w a g h ws t) (n : Nat) : Own w (a.drewN n) g h ws t := ⟨p.bank.drewN n, below_drewN p.below n, p.hg, p.hh⟩
theorem Own.new {w a : World} {n : Nat} (p : BankAt a (w.heap.size + 1) w.heap.size (zeros n) 0) (q : Below w.heap.size w a) : Own w a (w.heap.size + 1) w.heap.size (zeros n) 0 := ⟨p, q, by omega, Nat.le_refl _⟩

theorem aw1 : wordF (zeros 4) 2 = 0 ∧ errF (zeros 4) 2 = 0 ∧ setF (zeros 4) 2 (IntKind.u64.wrap (0 + 7)) = [0, 0, 7, 0] ∧ tickF (zeros 4) 2 0 = 1 := by decide +kernel
theorem aw2 : casB [0, 0, 7, 0] 2 7 = true ∧ errF [0, 0, 7, 0] 2 = 0 ∧ (if casB [0, 0, 7, 0] 2 7 = true then setF [0, 0, 7, 0] 2 9 else [0, 0, 7, 0]) = [0, 0, 9, 0] ∧ tickF [0, 0, 7, 0] 2 1 = 2 := by decide +kernel
theorem aw3 : wordF [0, 0, 9, 0] 2 = 9 ∧ errF [0, 0, 9, 0] 2 = 0 ∧ setF [0, 0, 9, 0] 2 (IntKind.u64.wrap (9 + 18446744073709551608)) = [0, 0, 1, 0] ∧ tickF [0, 0, 9, 0] 2 2 = 3 := by decide +kernel
theorem aw4 : wordF [0, 0, 1, 0] 2 = 1 ∧ errF [0, 0, 1, 0] 2 = 0 ∧ tickF [0, 0, 1, 0] 2 3 = 4 := by decide +kernel

set_option maxRecDepth 100000 in
set_option maxHeartbeats 1000000 in
theorem awake_any (w : World) :
    Calls Try.prog 11 #[] w fun e w' => e = .returned (.bool true) ∧ Below w.heap.size w w' := by
  go_enter Try.func11, Try.ntmps11
  go_wp2_with fail
  refine (New_in 4 (by omega) (by omega) _).mono ?_; rintro e w1 ⟨rfl, hb1, hl1, hs1⟩
  have HB1 := Lib.hid hb1
  have HL1 := Lib.hid hl1
  have hg1 : w.heap.size ≤ w.heap.size + 1 := by omega
  have hg2 : w.heap.size ≤ w1.heap.size := by omega
  clear hb1 hl1 hs1
  generalize hgg : w.heap.size + 1 = g at *
  have HGG := Lib.hid hgg
  clear hgg
  obtain ⟨h, hh⟩ : ∃ h, h = w.heap.size := ⟨_, rfl⟩
  go_wp2_with fail
  refine (Add_any g _ _ _ _ _ _ HB1.out).mono ?_; rintro e w2 ⟨rfl, hb2, he2⟩
  rw [aw1.1, aw1.2.1]
  rw [aw1.1, aw1.2.2.1, aw1.2.2.2] at hb2
  have HB2 := Lib.hid hb2
  have HE2 := Lib.hid he2
  clear hb2 he2
  go_wp2_with fail
  refine (CAS_any g _ _ _ _ _ _ _ HB2.out (by omega)).mono ?_; rintro e w3 ⟨rfl, hb3, he3⟩
  rw [aw2.1, aw2.2.1]
  rw [aw2.2.2.1, aw2.2.2.2] at hb3
  have HB3 := Lib.hid hb3
  have HE3 := Lib.hid (HE2.out.trans he3)
  clear hb3 he3
  go_wp2_with fail
  refine (Add_any g _ _ _ _ _ _ HB3.out).mono ?_; rintro e w4 ⟨rfl, hb4, he4⟩
  rw [aw3.1, aw3.2.1]
  rw [aw3.1, aw3.2.2.1, aw3.2.2.2] at hb4
  have HB4 := Lib.hid hb4
  have HE4 := Lib.hid (HE3.out.trans he4)
  clear hb4 he4
  go_wp2_with fail
  refine (Load_any g _ _ _ _ _ HB4.out).mono ?_; rintro e w5 ⟨rfl, hb5, he5⟩
  rw [aw4.1, aw4.2.1]
  rw [aw4.2.2] at hb5
  have HB5 := Lib.hid hb5
  have HE5 := Lib.hid (HE4.out.trans he5)
  clear hb5 he5
  go_wp2_with fail
  refine (Touches_any g _ _ _ _ HB5.out).mono ?_; rintro e w' ⟨rfl, rfl⟩
  go_wp2_with fail
  go_ret
  exact ⟨rfl, Ex2.below HL1.out HE5.out hg1 (Nat.le_refl _) hg2⟩

theorem May_in (n : Int) (h1 : 1 ≤ n) (h2 : n ≤ 1048576) (w : World) : Calls Try.prog 15 #[.int .i64 n] w fun e w' => e = .returned (.bool true) ∧ w = w' := by
  go_enter Try.func15, Try.ntmps15
  go_wp2_with fail
  go_ret
  exact ⟨rfl, rfl⟩
theorem May_out (n : Int) (h : n < 1 ∨ 1048576 < n) (w : World) : Calls Try.prog 15 #[.int .i64 n] w fun e w' => e = .returned (.bool false) ∧ w = w' := by
  rcases h with h | h
  · go_enter Try.func15, Try.ntmps15
    go_wp2_with fail
    go_ret
    exact ⟨rfl, rfl⟩
  · have h' : ¬ n < 1 := by omega
    have hd : decide (n ≤ 1048576) = false := by simp; omega
    go_enter Try.func15, Try.ntmps15
    go_wp2_with fail
    go_ret
    exact ⟨rfl, rfl⟩
end Go.Proofs.Ytabhkplcigdafaa.Bank
