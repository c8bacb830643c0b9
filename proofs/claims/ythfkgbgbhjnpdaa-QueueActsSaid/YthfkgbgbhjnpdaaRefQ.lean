/-
  The reference's cursor (package aileronref11): contracts of its calls. Conditions stand at each. By an AI agent.
-/
import Derived.Test.YthfkgbgbhjnpdaaLazyP
namespace Go.Proofs.Ythfkgbgbhjnpdaa.Queue
set_option linter.unusedVariables false
set_option linter.unusedSimpArgs false
open Go Go.RowKit Go.Proofs.Ythfkgbgbhjnpdaa.Base

theorem Is_any (g : Int) (w : World) : Calls Try.prog 17 #[.int .u64 g] w fun e w' => e = .returned (.bool (decide (g < 9223372036854775808))) ∧ w = w' := by
  go_enter Try.func17, Try.ntmps17
  go_wp2_with fail
  go_ret
  exact ⟨rfl, rfl⟩

theorem refRight_any (c : Cur) (w : World) : Calls Try.prog 26 #[c.val] w fun e w' => e = .returned (.bool (decide c.Right)) ∧ Below w.heap.size w w' := by
  obtain ⟨nx, cp, gt, ls⟩ := c
  have hcases : (decide (1 ≤ cp) = false ∧ decide (Cur.Right ⟨nx, cp, gt, ls⟩) = false) ∨ (decide (1 ≤ cp) = true ∧ decide (cp ≤ 15) = false ∧ decide (Cur.Right ⟨nx, cp, gt, ls⟩) = false) ∨
      (decide (1 ≤ cp) = true ∧ decide (cp ≤ 15) = true ∧ decide (Cur.Right ⟨nx, cp, gt, ls⟩) = decide (nx ≤ 9223372036854775808)) := by
    by_cases h1 : 1 ≤ cp
    · by_cases h2 : cp ≤ 15
      · refine .inr (.inr ⟨decide_eq_true h1, decide_eq_true h2, ?_⟩)
        by_cases h3 : nx ≤ 9223372036854775808
        · rw [decide_eq_true h3]; exact decide_eq_true ⟨⟨h1, h2⟩, h3⟩
        · rw [decide_eq_false h3]; exact decide_eq_false fun h => h3 h.2
      · exact .inr (.inl ⟨decide_eq_true h1, decide_eq_false h2, decide_eq_false fun h => h2 h.1.2⟩)
    · exact .inl ⟨decide_eq_false h1, decide_eq_false fun h => h1 h.1.1⟩
  unfold Cur.val
  rcases hcases with ⟨k1, k3⟩ | ⟨k1, k2, k3⟩ | ⟨k1, k2, k3⟩
  all_goals
    rw [k3]
    clear k3
    go_enter Try.func26, Try.ntmps26
    go_wp2_with fail
    go_ret
    exact ⟨rfl, (Below.refl _ _).alloc (Nat.le_refl _) _⟩

theorem refMay_any (c : Cur) (g : Int) (w : World) : Calls Try.prog 18 #[c.val, .int .u64 g] w fun e w' => e = .returned (.int .i64 (mayE c g)) ∧ Below w.heap.size w w' := by
  have HR := Lib.hid (refRight_any c)
  by_cases hr : c.Right
  · rw [decide_eq_true hr] at HR
    by_cases hi : Is g
    · have hi' : decide (g < 9223372036854775808) = true := decide_eq_true hi
      rw [mayE_yes hr hi]
      unfold Cur.val at *
      go_enter Try.func18, Try.ntmps18
      go_wp2_with fail
      refine (HR.out _).mono ?_; rintro e w1 ⟨rfl, hb⟩
      have L1 := Lib.hid (box_below hb)
      clear hb
      go_wp2_with fail
      refine (Is_any g _).mono ?_; rintro e w' ⟨rfl, rfl⟩
      rw [hi']
      go_wp2_with fail
      go_ret
      exact ⟨rfl, L1.out⟩
    · have hi' : decide (g < 9223372036854775808) = false := decide_eq_false hi
      rw [show mayE c g = 10 by unfold mayE; rw [if_pos hr, if_neg hi]]
      unfold Cur.val at *
      go_enter Try.func18, Try.ntmps18
      go_wp2_with fail
      refine (HR.out _).mono ?_; rintro e w1 ⟨rfl, hb⟩
      have L1 := Lib.hid (box_below hb)
      clear hb
      go_wp2_with fail
      refine (Is_any g _).mono ?_; rintro e w' ⟨rfl, rfl⟩
      rw [hi']
      go_wp2_with fail
      go_ret
      exact ⟨rfl, L1.out⟩
  · rw [decide_eq_false hr] at HR
    rw [show mayE c g = 1 by unfold mayE; rw [if_neg hr]]
    unfold Cur.val at *
    go_enter Try.func18, Try.ntmps18
    go_wp2_with fail
    refine (HR.out _).mono ?_; rintro e w1 ⟨rfl, hb⟩
    have L1 := Lib.hid (box_below hb)
    clear hb
    go_wp2_with fail
    go_ret
    exact ⟨rfl, L1.out⟩

/-- exactly the box is new -/
theorem Waits_any (c : Cur) (g : Int) (hc : 0 ≤ c.next) (hg : 0 ≤ g) (hi : Is g) (w : World) :
    Calls Try.prog 20 #[c.val, .int .u64 g] w fun e w' => e = .returned (.int .u64 (waits c g)) ∧ w' = w.alloc (.cells #[.int .u64 c.next, .int .i64 c.cap, .int .u64 c.got, .int .u64 c.lost] 46) := by
  obtain ⟨nx, cp, gt, ls⟩ := c
  unfold Is at hi
  unfold waits
  unfold Cur.val
  simp only at hc ⊢
  by_cases h : g < nx
  · rw [if_pos h]
    have k : decide (g < nx) = true := decide_eq_true h
    go_enter Try.func20, Try.ntmps20
    go_wp2_with fail
    go_ret
    exact ⟨rfl, rfl⟩
  · rw [if_neg h]
    have k : decide (g < nx) = false := decide_eq_false h
    go_enter Try.func20, Try.ntmps20
    go_wp2_with fail
    go_ret
    exact ⟨rfl, rfl⟩

theorem same_any (c : Cur) (w : World) : Calls Try.prog 21 #[c.val, c.val] w fun e w' => e = .returned (.bool true) ∧ Below w.heap.size w w' := by
  obtain ⟨nx, cp, gt, ls⟩ := c
  have e0 : (nx == nx) = true := by simp
  have e1 : (cp == cp) = true := by simp
  have e2 : (gt == gt) = true := by simp
  have e3 : (ls == ls) = true := by simp
  unfold Cur.val
  go_enter Try.func21, Try.ntmps21
  go_wp2_with fail
  go_ret
  exact ⟨rfl, ((Below.refl _ _).alloc (Nat.le_refl _) _).alloc (by simp) _⟩

set_option maxRecDepth 100000 in
set_option maxHeartbeats 4000000 in
theorem refSee_any (c : Cur) (g : Int) (hc : c.Ok) (hg : 0 ≤ g) (hr : c.Right) (hi : Is g) (w : World) :
    Calls Try.prog 19 #[c.val, .int .u64 g] w fun e w' => e = .returned (seen c g).val ∧ Below w.heap.size w w' := by
  have HW := Lib.hid (Waits_any c g hc.next.1 hg hi)
  obtain ⟨nx, cp, gt, ls⟩ := c
  obtain ⟨⟨n0, n1⟩, ⟨p0, p1⟩, ⟨g0, g1⟩, ⟨l0, l1⟩⟩ := hc
  obtain ⟨⟨r1, r2⟩, r3⟩ := hr
  unfold Is at hi
  unfold seen
  unfold waits at HW
  simp only at n0 n1 p0 p1 g0 g1 l0 l1 r1 r2 r3
  simp only at HW ⊢
  by_cases hlt : g < nx
  · rw [if_pos hlt] at HW ⊢
    have k2 : decide (cp < 0) = false := decide_eq_false (by omega)
    unfold Cur.val at *
    go_enter Try.func19, Try.ntmps19
    go_wp2_with fail
    refine (HW.out _).mono ?_; rintro e w' ⟨rfl, rfl⟩
    go_wp2_with fail
    trace "E1"
    (try simp only [Exit.inBlock, Exit.then])
    refine bodyPost_ret (v := .agg #[.int .u64 nx, .int .i64 cp, .int .u64 gt, .int .u64 ls]) ?_ rfl ⟨rfl, ?_⟩
    · simp [results, asAddr]; go_simp
    · (repeat (first | refine Below.setCell ?_ (by simp <;> omega) _ | refine Below.alloc ?_ (by simp <;> omega) _ | exact Below.refl _ _))
  · rw [if_neg hlt] at HW ⊢
    by_cases hw : g - nx + 1 > cp
    · rw [if_pos hw]
      have k2 : decide (cp < g - nx + 1) = true := decide_eq_true (by omega)
      unfold Cur.val at *
      go_enter Try.func19, Try.ntmps19
      go_wp2_with fail
      refine (HW.out _).mono ?_; rintro e w' ⟨rfl, rfl⟩
      go_wp2_with fail
      trace "E2"
      (try simp only [Exit.inBlock, Exit.then])
      refine bodyPost_ret (v := .agg #[.int .u64 (g - cp + 1), .int .i64 cp, .int .u64 gt, .int .u64 (IntKind.u64.wrap (ls + (g - nx + 1 - cp)))]) ?_ rfl ⟨rfl, ?_⟩
      · simp [results, asAddr]; go_simp
      · (repeat (first | refine Below.setCell ?_ (by simp <;> omega) _ | refine Below.alloc ?_ (by simp <;> omega) _ | exact Below.refl _ _))
    · rw [if_neg hw]
      have k2 : decide (cp < g - nx + 1) = false := decide_eq_false (by omega)
      unfold Cur.val at *
      go_enter Try.func19, Try.ntmps19
      go_wp2_with fail
      refine (HW.out _).mono ?_; rintro e w' ⟨rfl, rfl⟩
      go_wp2_with fail
      trace "E3"
      (try simp only [Exit.inBlock, Exit.then])
      refine bodyPost_ret (v := .agg #[.int .u64 nx, .int .i64 cp, .int .u64 gt, .int .u64 ls]) ?_ rfl ⟨rfl, ?_⟩
      · simp [results, asAddr]; go_simp
      · (repeat (first | refine Below.setCell ?_ (by simp <;> omega) _ | refine Below.alloc ?_ (by simp <;> omega) _ | exact Below.refl _ _))
end Go.Proofs.Ythfkgbgbhjnpdaa.Queue
