/-
  Reg: the walks through may, Pack, Health. Conditions stand at each. By an AI agent.
-/
import Derived.Test.YthhellgaafbokaaReg
import Derived.WalkSpells
namespace Go.Proofs.Ythhellgaafbokaa.Reg
set_option linter.unusedVariables false
set_option linter.unusedSimpArgs false
open Go Go.RowKit Go.Proofs.Ythhellgaafbokaa.Base Go.Proofs.Ythhellgaafbokaa.Modes

def inB (n lo hi : Int) : Bool := decide (lo ≤ n ∧ n < hi)
theorem mode_any (n : Int) (w : World) : Calls Try.prog 53 #[.int .i64 n] w fun e w' => e = .returned (.bool (inB n 0 8)) ∧ w = w' := by
  by_cases h0 : 0 ≤ n
  · by_cases h1 : n < 8
    · rw [show inB n 0 8 = true from decide_eq_true ⟨h0, h1⟩]
      go_enter Try.func53, Try.ntmps53
      go_wp2
      go_ret
      exact ⟨rfl, rfl⟩
    · rw [show inB n 0 8 = false from decide_eq_false (fun h => h1 h.2)]
      go_enter Try.func53, Try.ntmps53
      go_wp2
      go_ret
      exact ⟨rfl, rfl⟩
  · rw [show inB n 0 8 = false from decide_eq_false (fun h => h0 h.1)]
    go_enter Try.func53, Try.ntmps53
    go_wp2
    go_ret
    exact ⟨rfl, rfl⟩
theorem source_any (n : Int) (w : World) : Calls Try.prog 54 #[.int .i64 n] w fun e w' => e = .returned (.bool (inB n 0 4)) ∧ w = w' := by
  by_cases h0 : 0 ≤ n
  · by_cases h1 : n < 4
    · rw [show inB n 0 4 = true from decide_eq_true ⟨h0, h1⟩]
      go_enter Try.func54, Try.ntmps54
      go_wp2
      go_ret
      exact ⟨rfl, rfl⟩
    · rw [show inB n 0 4 = false from decide_eq_false (fun h => h1 h.2)]
      go_enter Try.func54, Try.ntmps54
      go_wp2
      go_ret
      exact ⟨rfl, rfl⟩
  · rw [show inB n 0 4 = false from decide_eq_false (fun h => h0 h.1)]
    go_enter Try.func54, Try.ntmps54
    go_wp2
    go_ret
    exact ⟨rfl, rfl⟩
theorem health_any (n : Int) (w : World) : Calls Try.prog 48 #[.int .i64 n] w fun e w' => e = .returned (.bool (inB n 0 64)) ∧ w = w' := by
  by_cases h0 : 0 ≤ n
  · by_cases h1 : n ≤ 63
    · rw [show inB n 0 64 = true from decide_eq_true ⟨h0, by omega⟩]
      go_enter Try.func48, Try.ntmps48
      go_wp2
      go_ret
      exact ⟨rfl, rfl⟩
    · rw [show inB n 0 64 = false from decide_eq_false (fun h => h1 (by omega))]
      go_enter Try.func48, Try.ntmps48
      go_wp2
      go_ret
      exact ⟨rfl, rfl⟩
  · rw [show inB n 0 64 = false from decide_eq_false (fun h => h0 h.1)]
    go_enter Try.func48, Try.ntmps48
    go_wp2
    go_ret
    exact ⟨rfl, rfl⟩

/-- the ways through may -/
theorem may_ways (s : St) : (inB s.mode 0 8 = false ∧ mayE s = 10) ∨ (inB s.mode 0 8 = true ∧ inB s.source 0 4 = false ∧ mayE s = 10) ∨ (inB s.mode 0 8 = true ∧ inB s.source 0 4 = true ∧ inB s.flags 0 64 = false ∧ mayE s = 10) ∨
    (inB s.mode 0 8 = true ∧ inB s.source 0 4 = true ∧ inB s.flags 0 64 = true ∧ decide (4503599627370496 ≤ s.epoch) = true ∧ mayE s = 10) ∨
    (inB s.mode 0 8 = true ∧ inB s.source 0 4 = true ∧ inB s.flags 0 64 = true ∧ decide (4503599627370496 ≤ s.epoch) = false ∧ s.hold = false ∧ mayE s = 0) ∨
    (inB s.mode 0 8 = true ∧ inB s.source 0 4 = true ∧ inB s.flags 0 64 = true ∧ decide (4503599627370496 ≤ s.epoch) = false ∧ s.hold = true ∧ (s.source != 3) = true ∧ mayE s = 1) ∨
    (inB s.mode 0 8 = true ∧ inB s.source 0 4 = true ∧ inB s.flags 0 64 = true ∧ decide (4503599627370496 ≤ s.epoch) = false ∧ s.hold = true ∧ (s.source != 3) = false ∧ mayE s = 0) := by
  unfold mayE
  by_cases h1 : inB s.mode 0 8 = true
  · by_cases h2 : inB s.source 0 4 = true
    · by_cases h3 : inB s.flags 0 64 = true
      · by_cases h4 : 4503599627370496 ≤ s.epoch
        · have hp : ¬ s.Parts := fun h => by have := h.2.2.2; omega
          rw [if_neg hp]
          simp only [h1, h2, h3, decide_eq_true h4, Bool.true_eq_false, false_and, true_and, and_true, or_true, true_or, false_or]
        · have hp : s.Parts := by
            unfold inB at h1 h2 h3
            have := of_decide_eq_true h1
            have := of_decide_eq_true h2
            have := of_decide_eq_true h3
            exact ⟨by omega, by omega, by omega, by omega⟩
          rw [if_pos hp, decide_eq_false h4]
          unfold St.Held
          simp only [h1, h2, h3]
          by_cases hh : s.hold = true
          · by_cases hs : s.source = 3
            · simp [hs, hh]
            · simp [hs, hh]
          · simp [hh]
      · have hp : ¬ s.Parts := fun h => h3 (decide_eq_true (by have := h.2.2.1; omega))
        rw [if_neg hp]
        simp only [h1, h2, h3, Bool.not_eq_true] at *
        simp [h3]
    · have hp : ¬ s.Parts := fun h => h2 (decide_eq_true (by have := h.2.1; omega))
      rw [if_neg hp]
      simp only [Bool.not_eq_true] at h2
      simp [h1, h2]
  · have hp : ¬ s.Parts := fun h => h1 (decide_eq_true (by have := h.1; omega))
    rw [if_neg hp]
    simp only [Bool.not_eq_true] at h1
    simp [h1]

set_option maxRecDepth 100000 in
set_option maxHeartbeats 4000000 in
theorem may_any (s : St) (h : s.Ok) (w : World) : Calls Try.prog 43 #[s.val] w fun e w' => e = .returned (.int .i64 (mayE s)) ∧ Below w.heap.size w w' := by
  have hw := may_ways s
  obtain ⟨m, so, ho, fl, ep⟩ := s
  obtain ⟨⟨m0, m1⟩, ⟨s0, s1⟩, ⟨f0, f1⟩, ⟨e0, e1⟩⟩ := h
  unfold St.val
  simp only at *
  rcases hw with ⟨h1, hE⟩ | ⟨h1, h2, hE⟩ | ⟨h1, h2, h3, hE⟩ | ⟨h1, h2, h3, h4, hE⟩ | ⟨h1, h2, h3, h4, h5, hE⟩ | ⟨h1, h2, h3, h4, h5, h6, hE⟩ | ⟨h1, h2, h3, h4, h5, h6, hE⟩
  all_goals
    rw [hE]
    clear hE
    try subst h5
    go_enter Try.func43, Try.ntmps43
    go_wp2_with (first
      | (go_at_call 53; refine (mode_any _ _).mono ?_; rintro e w' ⟨rfl, rfl⟩)
      | (go_at_call 54; refine (source_any _ _).mono ?_; rintro e w' ⟨rfl, rfl⟩)
      | (go_at_call 48; refine (health_any _ _).mono ?_; rintro e w' ⟨rfl, rfl⟩))
    go_ret
    exact ⟨rfl, (Below.refl _ _).alloc (Nat.le_refl _) _⟩

set_option maxRecDepth 100000 in
set_option maxHeartbeats 4000000 in
theorem Pack_bad (s : St) (h : s.Ok) (hb : mayE s ≠ 0) (w : World) : Calls Try.prog 21 #[s.val] w fun e w' => e = .returned (.tuple #[.int .u64 0, .int .i64 (mayE s)]) ∧ Below w.heap.size w w' := by
  have HM := Lib.hid (may_any s h)
  obtain ⟨m, so, ho, fl, ep⟩ := s
  unfold St.val at *
  have hb1 : (mayE ⟨m, so, ho, fl, ep⟩ != 0) = true := by simpa using hb
  generalize mayE ⟨m, so, ho, fl, ep⟩ = er at *
  clear hb h
  go_enter Try.func21, Try.ntmps21
  go_wp2_with fail
  refine (HM.out _).mono ?_; rintro e w1 ⟨rfl, hb⟩
  go_wp2_with fail
  go_ret2
  exact ⟨rfl, ((Below.refl _ _).alloc (Nat.le_refl _) _).trans (hb.mono (by simp))⟩
set_option maxRecDepth 100000 in
set_option maxHeartbeats 4000000 in
theorem Pack_ok (s : St) (h : s.Ok) (hb : mayE s = 0) (w : World) : Calls Try.prog 21 #[s.val] w fun e w' => e = .returned (.tuple #[.int .u64 (wordI s), .int .i64 0]) ∧ Below w.heap.size w w' := by
  have HM := Lib.hid (may_any s h)
  obtain ⟨⟨⟨a0, a1⟩, ⟨b0, b1⟩, ⟨c0, c1⟩, d1⟩, _⟩ := mayE_zero.1 hb
  obtain ⟨e0, e1⟩ := h.epoch
  rw [hb] at HM
  obtain ⟨m, so, ho, fl, ep⟩ := s
  unfold St.val at *
  unfold wordI
  simp only at *
  clear hb h
  cases ho
  all_goals
    go_enter Try.func21, Try.ntmps21
    go_wp2_with fail
    refine (HM.out _).mono ?_; rintro e w1 ⟨rfl, hb⟩
    have hbx : Blk w1 w.heap.size 28 _ := (Blk.new w 28 #[.int .i64 m, .int .i64 so, .bool _, .int .i64 fl, .int .u64 ep]).bl hb
    have k0 := hbx.cell 0
    have k1 := hbx.cell 1
    have k2 := hbx.cell 2
    have k3 := hbx.cell 3
    have k4 := hbx.cell 4
    simp only [List.getElem?_toArray, List.getElem?_cons_succ, List.getElem?_cons_zero] at k0 k1 k2 k3 k4
    have HB := Lib.hid hb
    clear hbx hb
    go_wp2_with fail
    go_ret2
    refine ⟨?_, ((Below.refl _ _).alloc (Nat.le_refl _) _).trans (HB.out.mono (by simp))⟩
    show Ending.returned (.tuple #[.int .u64 _, .int .i64 0]) = _
    first
      | (rw [word_bits ⟨a0, a1⟩ ⟨b0, b1⟩ ⟨c0, c1⟩ ⟨e0, d1⟩]; done)
      | (rw [word_bits32 ⟨a0, a1⟩ ⟨b0, b1⟩ ⟨c0, c1⟩ ⟨e0, d1⟩]; done)
end Go.Proofs.Ythhellgaafbokaa.Reg
