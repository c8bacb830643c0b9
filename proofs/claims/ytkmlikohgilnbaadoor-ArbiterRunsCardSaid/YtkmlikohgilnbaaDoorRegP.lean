/-
  Reg: the walks through the parts of a request. Conditions stand at each. By an AI agent.
-/
import Derived.Test.YtkmlikohgilnbaaDoorRegH
namespace Go.Proofs.YtkmlikohgilnbaaDoor.Reg
set_option linter.unusedVariables false
set_option linter.unusedSimpArgs false
open Go Go.RowKit Go.Proofs.YtkmlikohgilnbaaDoor.Base Go.Proofs.YtkmlikohgilnbaaDoor.Modes Go.Deep

def mval (s : St) (a : Ask) : Value := .agg #[.int .i64 s.mode, .int .i64 s.source, .bool s.hold, .int .i64 s.flags, .int .u64 s.epoch, .int .i64 a.source, .int .i64 a.mode, .bool a.free]
def argsE (s : St) : Int := if mayE s ≠ 0 then 1 else 0
def rangesE (a : Ask) : Int := if ¬ a.In then 10 else 0
def holdE (s : St) (a : Ask) : Int := if s.hold = true ∧ a.source ≠ 3 then 23 else 0
def rankE (s : St) (a : Ask) : Int := if a.source < s.source ∧ s.mode ≠ 0 then 24 else 0
def wayE (s : St) (a : Ask) : Int := if wayB s.mode a.mode = false then 21 else 0
def guardE (s : St) (a : Ask) : Int := if guardB s a = false then 22 else 0
def fullE (s : St) : Int := if s.epoch = lastE then 16 else 0

set_option maxRecDepth 100000 in
set_option maxHeartbeats 4000000 in
theorem margs_any (s : St) (h : s.Ok) (a : Ask) (ha : a.Ok) (w : World) (ht : Tab w) : Calls Tryd.prog 48 #[mval s a] w fun e w' => e = .returned (.int .i64 (argsE s)) ∧ Below w.heap.size w w' := by
  have HM := Lib.hid (may_any s h)
  unfold argsE mval
  have HW : ((mayE s != 0) = true ∧ (if mayE s ≠ 0 then (1 : Int) else 0) = 1) ∨ ((mayE s != 0) = false ∧ (if mayE s ≠ 0 then (1 : Int) else 0) = 0) := by
    by_cases h : mayE s = 0 <;> simp [h]
  obtain ⟨m, so, ho, fl, ep⟩ := s
  unfold St.val at *
  clear h ht
  simp only at *
  rcases HW with ⟨q, hE⟩ | ⟨q, hE⟩
  all_goals
    rw [hE]
    clear hE
    generalize mayE ⟨m, so, ho, fl, ep⟩ = er at *
    go_enter Tryd.func48, Tryd.ntmps48
    go_wp2_with fail
    refine (HM.out _).mono ?_; rintro e w1 ⟨rfl, hb⟩
    have HB := Lib.hid (((Below.refl w.heap.size w).alloc (Nat.le_refl _) (.cells #[.int .i64 m, .int .i64 so, .bool ho, .int .i64 fl, .int .u64 ep, .int .i64 a.source, .int .i64 a.mode, .bool a.free] 112)).trans (hb.mono (by simp)))
    clear hb
    go_wp2_with fail
    go_ret
    exact ⟨rfl, HB.out⟩

set_option maxRecDepth 100000 in
set_option maxHeartbeats 4000000 in
theorem mranges_any (s : St) (h : s.Ok) (a : Ask) (ha : a.Ok) (w : World) (ht : Tab w) : Calls Tryd.prog 49 #[mval s a] w fun e w' => e = .returned (.int .i64 (rangesE a)) ∧ Below w.heap.size w w' := by
  have HT := Lib.hid (ht.below ((Below.refl _ _).alloc (Nat.le_refl _) (.cells #[.int .i64 s.mode, .int .i64 s.source, .bool s.hold, .int .i64 s.flags, .int .u64 s.epoch, .int .i64 a.source, .int .i64 a.mode, .bool a.free] 112)))
  clear ht
  have HW : (inB a.source 0 4 = false ∧ rangesE a = 10) ∨ (inB a.source 0 4 = true ∧ inB a.mode 0 8 = false ∧ rangesE a = 10) ∨ (inB a.source 0 4 = true ∧ inB a.mode 0 8 = true ∧ rangesE a = 0) := by
    unfold rangesE
    by_cases h1 : inB a.source 0 4 = true
    · by_cases h2 : inB a.mode 0 8 = true
      · have : a.In := ⟨of_decide_eq_true h1, of_decide_eq_true h2⟩
        simp [h1, h2, this]
      · have : ¬ a.In := fun h => h2 (decide_eq_true h.2)
        simp only [Bool.not_eq_true] at h2
        simp [h1, h2, this]
    · have : ¬ a.In := fun h => h1 (decide_eq_true h.1)
      simp only [Bool.not_eq_true] at h1
      simp [h1, this]
  unfold mval
  obtain ⟨m, so, ho, fl, ep⟩ := s
  obtain ⟨aso, am, af⟩ := a
  obtain ⟨⟨m0, m1⟩, ⟨s0, s1⟩, ⟨f0, f1⟩, ⟨e0, e1⟩⟩ := h
  obtain ⟨⟨aso0, aso1⟩, ⟨am0, am1⟩⟩ := ha
  simp only at *
  rcases HW with ⟨q0, hE⟩ | ⟨q0, q1, hE⟩ | ⟨q0, q1, hE⟩
  all_goals
    rw [hE]
    clear hE
    try subst q9
    go_enter Tryd.func49, Tryd.ntmps49
    go_wp2_with (first | (go_at_call 63; refine (mode_any _ _).mono ?_; rintro e w' ⟨rfl, rfl⟩) | (go_at_call 64; refine (source_any _ _).mono ?_; rintro e w' ⟨rfl, rfl⟩))
    go_ret
    exact ⟨rfl, (Below.refl _ _).alloc (Nat.le_refl _) _⟩

set_option maxRecDepth 100000 in
set_option maxHeartbeats 4000000 in
theorem mhold_any (s : St) (h : s.Ok) (a : Ask) (ha : a.Ok) (w : World) (ht : Tab w) : Calls Tryd.prog 50 #[mval s a] w fun e w' => e = .returned (.int .i64 (holdE s a)) ∧ Below w.heap.size w w' := by
  have HT := Lib.hid (ht.below ((Below.refl _ _).alloc (Nat.le_refl _) (.cells #[.int .i64 s.mode, .int .i64 s.source, .bool s.hold, .int .i64 s.flags, .int .u64 s.epoch, .int .i64 a.source, .int .i64 a.mode, .bool a.free] 112)))
  clear ht
  have HW : (s.hold = false ∧ holdE s a = 0) ∨ (s.hold = true ∧ (a.source != 3) = true ∧ holdE s a = 23) ∨ (s.hold = true ∧ (a.source != 3) = false ∧ holdE s a = 0) := by
    unfold holdE
    by_cases h1 : s.hold = true
    · by_cases h2 : a.source = 3 <;> simp [h1, h2]
    · simp [h1]
  unfold mval
  obtain ⟨m, so, ho, fl, ep⟩ := s
  obtain ⟨aso, am, af⟩ := a
  obtain ⟨⟨m0, m1⟩, ⟨s0, s1⟩, ⟨f0, f1⟩, ⟨e0, e1⟩⟩ := h
  obtain ⟨⟨aso0, aso1⟩, ⟨am0, am1⟩⟩ := ha
  simp only at *
  rcases HW with ⟨q9, hE⟩ | ⟨q9, q1, hE⟩ | ⟨q9, q1, hE⟩
  all_goals
    rw [hE]
    clear hE
    try subst q9
    go_enter Tryd.func50, Tryd.ntmps50
    go_wp2_with (fail)
    go_ret
    exact ⟨rfl, (Below.refl _ _).alloc (Nat.le_refl _) _⟩

set_option maxRecDepth 100000 in
set_option maxHeartbeats 4000000 in
theorem mrank_any (s : St) (h : s.Ok) (a : Ask) (ha : a.Ok) (w : World) (ht : Tab w) : Calls Tryd.prog 51 #[mval s a] w fun e w' => e = .returned (.int .i64 (rankE s a)) ∧ Below w.heap.size w w' := by
  have HT := Lib.hid (ht.below ((Below.refl _ _).alloc (Nat.le_refl _) (.cells #[.int .i64 s.mode, .int .i64 s.source, .bool s.hold, .int .i64 s.flags, .int .u64 s.epoch, .int .i64 a.source, .int .i64 a.mode, .bool a.free] 112)))
  clear ht
  have HW : (decide (a.source < s.source) = false ∧ rankE s a = 0) ∨ (decide (a.source < s.source) = true ∧ (s.mode != 0) = true ∧ rankE s a = 24) ∨ (decide (a.source < s.source) = true ∧ (s.mode != 0) = false ∧ rankE s a = 0) := by
    unfold rankE
    by_cases h1 : a.source < s.source
    · by_cases h2 : s.mode = 0 <;> simp [h1, h2]
    · simp [h1]
  unfold mval
  obtain ⟨m, so, ho, fl, ep⟩ := s
  obtain ⟨aso, am, af⟩ := a
  obtain ⟨⟨m0, m1⟩, ⟨s0, s1⟩, ⟨f0, f1⟩, ⟨e0, e1⟩⟩ := h
  obtain ⟨⟨aso0, aso1⟩, ⟨am0, am1⟩⟩ := ha
  simp only at *
  rcases HW with ⟨q0, hE⟩ | ⟨q0, q1, hE⟩ | ⟨q0, q1, hE⟩
  all_goals
    rw [hE]
    clear hE
    try subst q9
    go_enter Tryd.func51, Tryd.ntmps51
    go_wp2_with (fail)
    go_ret
    exact ⟨rfl, (Below.refl _ _).alloc (Nat.le_refl _) _⟩

set_option maxRecDepth 100000 in
set_option maxHeartbeats 4000000 in
theorem mfull_any (s : St) (h : s.Ok) (a : Ask) (ha : a.Ok) (w : World) (ht : Tab w) : Calls Tryd.prog 54 #[mval s a] w fun e w' => e = .returned (.int .i64 (fullE s)) ∧ Below w.heap.size w w' := by
  have HT := Lib.hid (ht.below ((Below.refl _ _).alloc (Nat.le_refl _) (.cells #[.int .i64 s.mode, .int .i64 s.source, .bool s.hold, .int .i64 s.flags, .int .u64 s.epoch, .int .i64 a.source, .int .i64 a.mode, .bool a.free] 112)))
  clear ht
  have HW : ((s.epoch == 4503599627370495) = true ∧ fullE s = 16) ∨ ((s.epoch == 4503599627370495) = false ∧ fullE s = 0) := by
    unfold fullE lastE
    by_cases h1 : s.epoch = 4503599627370495
    · left; rw [if_pos h1]; exact ⟨by simpa using h1, rfl⟩
    · right; rw [if_neg h1]; exact ⟨by simpa using h1, rfl⟩
  unfold mval
  obtain ⟨m, so, ho, fl, ep⟩ := s
  obtain ⟨aso, am, af⟩ := a
  obtain ⟨⟨m0, m1⟩, ⟨s0, s1⟩, ⟨f0, f1⟩, ⟨e0, e1⟩⟩ := h
  obtain ⟨⟨aso0, aso1⟩, ⟨am0, am1⟩⟩ := ha
  simp only at *
  rcases HW with ⟨q0, hE⟩ | ⟨q0, hE⟩
  all_goals
    rw [hE]
    clear hE
    try subst q9
    go_enter Tryd.func54, Tryd.ntmps54
    go_wp2_with (fail)
    go_ret
    exact ⟨rfl, (Below.refl _ _).alloc (Nat.le_refl _) _⟩

set_option maxRecDepth 100000 in
set_option maxHeartbeats 4000000 in
theorem mway_any (s : St) (h : s.Ok) (a : Ask) (ha : a.Ok) (w : World) (ht : Tab w) : Calls Tryd.prog 52 #[mval s a] w fun e w' => e = .returned (.int .i64 (wayE s a)) ∧ Below w.heap.size w w' := by
  have HT := Lib.hid (ht.below ((Below.refl _ _).alloc (Nat.le_refl _) (.cells #[.int .i64 s.mode, .int .i64 s.source, .bool s.hold, .int .i64 s.flags, .int .u64 s.epoch, .int .i64 a.source, .int .i64 a.mode, .bool a.free] 112)))
  clear ht
  have HW : (wayB s.mode a.mode = false ∧ wayE s a = 21) ∨ (wayB s.mode a.mode = true ∧ wayE s a = 0) := by
    unfold wayE
    by_cases h1 : wayB s.mode a.mode = false
    · simp [h1]
    · simp [h1]
  unfold mval
  obtain ⟨m, so, ho, fl, ep⟩ := s
  obtain ⟨aso, am, af⟩ := a
  obtain ⟨⟨m0, m1⟩, ⟨s0, s1⟩, ⟨f0, f1⟩, ⟨e0, e1⟩⟩ := h
  obtain ⟨⟨aso0, aso1⟩, ⟨am0, am1⟩⟩ := ha
  simp only at *
  rcases HW with ⟨q0, hE⟩ | ⟨q0, hE⟩
  all_goals
    rw [hE]
    clear hE
    try subst q9
    go_enter Tryd.func52, Tryd.ntmps52
    go_wp2_with (go_at_call 65; refine (Way_any _ _ _ HT.out).mono ?_; rintro e w' ⟨rfl, rfl⟩)
    go_ret
    exact ⟨rfl, (Below.refl _ _).alloc (Nat.le_refl _) _⟩

set_option maxRecDepth 100000 in
set_option maxHeartbeats 4000000 in
theorem mguard_any (s : St) (h : s.Ok) (a : Ask) (ha : a.Ok) (w : World) (ht : Tab w) : Calls Tryd.prog 53 #[mval s a] w fun e w' => e = .returned (.int .i64 (guardE s a)) ∧ Below w.heap.size w w' := by
  have HT := Lib.hid (ht.below ((Below.refl _ _).alloc (Nat.le_refl _) (.cells #[.int .i64 s.mode, .int .i64 s.source, .bool s.hold, .int .i64 s.flags, .int .u64 s.epoch, .int .i64 a.source, .int .i64 a.mode, .bool a.free] 112)))
  clear ht
  have HW : ((bits .and .i64 s.flags (needZ s.mode a.mode) != needZ s.mode a.mode) = true ∧ guardE s a = 22) ∨ ((bits .and .i64 s.flags (needZ s.mode a.mode) != needZ s.mode a.mode) = false ∧ (bits .and .i64 s.flags (notZ s.mode a.mode) != 0) = true ∧ guardE s a = 22) ∨ ((bits .and .i64 s.flags (needZ s.mode a.mode) != needZ s.mode a.mode) = false ∧ (bits .and .i64 s.flags (notZ s.mode a.mode) != 0) = false ∧ guardE s a = 0) := by
    unfold guardE guardB
    by_cases h1 : bits .and .i64 s.flags (needZ s.mode a.mode) = needZ s.mode a.mode
    · by_cases h2 : bits .and .i64 s.flags (notZ s.mode a.mode) = 0
      · simp [h1, h2]
      · simp [h1, h2]
    · simp [h1]
  unfold mval
  obtain ⟨m, so, ho, fl, ep⟩ := s
  obtain ⟨aso, am, af⟩ := a
  obtain ⟨⟨m0, m1⟩, ⟨s0, s1⟩, ⟨f0, f1⟩, ⟨e0, e1⟩⟩ := h
  obtain ⟨⟨aso0, aso1⟩, ⟨am0, am1⟩⟩ := ha
  simp only at *
  rcases HW with ⟨q0, hE⟩ | ⟨q0, q1, hE⟩ | ⟨q0, q1, hE⟩
  all_goals
    rw [hE]
    clear hE
    try subst q9
    go_enter Tryd.func53, Tryd.ntmps53
    go_wp2_with (go_at_call 66; refine (Guard_any _ _ _ HT.out).mono ?_; rintro e w' ⟨rfl, rfl⟩)
    go_ret
    exact ⟨rfl, (Below.refl _ _).alloc (Nat.le_refl _) _⟩
end Go.Proofs.YtkmlikohgilnbaaDoor.Reg
