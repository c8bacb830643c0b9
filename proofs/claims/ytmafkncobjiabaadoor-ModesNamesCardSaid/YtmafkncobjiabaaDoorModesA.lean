/-
  Modes: the walk through the chapter's examples. Condition: the table of ways lies in block 0. By an AI agent.
-/
import Derived.Test.YtmafkncobjiabaaDoorModesR
namespace Go.Proofs.YtmafkncobjiabaaDoor.Modes
set_option linter.unusedVariables false
set_option linter.unusedSimpArgs false
open Go Go.RowKit Go.Proofs.YtmafkncobjiabaaDoor.Base Go.Deep

theorem ex1 : needZ 1 2 = 13 ∧ notZ 1 2 = 16 ∧ wayB 1 2 = true ∧ wayB 0 2 = false := by decide +kernel
theorem ex2 : pathF [0, 1, 3] = (2, false) := by decide +kernel
theorem ex3 : reachL 2 1 = [2, 3, 6, 7] := by decide +kernel
theorem ex4 : sameF (reachL 2 1) [2, 3, 6, 7] = true := by decide +kernel

set_option maxHeartbeats 1000000 in
theorem awake_any (w : World) (ht : Tab w) :
    Calls Tryd.prog 12 #[] w fun e w' => e = .returned (.bool true) ∧ Below w.heap.size w w' := by
  have HT := Lib.hid ht
  clear ht
  have H1 := Lib.hid ex1
  go_enter Tryd.func12, Tryd.ntmps12
  go_wp2_with fail
  refine (Guard_any _ _ _ HT.out).mono ?_; rintro e w' ⟨rfl, rfl⟩
  rw [H1.out.1, H1.out.2.1]
  go_wp2_with fail
  refine (Path_any _ [0, 1, 3] _ (HT.out.below ((Below.refl _ _).alloc (Nat.le_refl _) _)) (ints_new _ _ .i64 [0, 1, 3] (by simp [maxLen]) _)).mono ?_; rintro e w' ⟨rfl, rfl⟩
  rw [ex2]
  go_wp2_with fail
  refine (Way_any _ _ _ (HT.out.below ((Below.refl _ _).alloc (Nat.le_refl _) _))).mono ?_; rintro e w' ⟨rfl, rfl⟩
  rw [H1.out.2.2.1]
  go_wp2_with fail
  refine (Way_any _ _ _ (HT.out.below ((Below.refl _ _).alloc (Nat.le_refl _) _))).mono ?_; rintro e w' ⟨rfl, rfl⟩
  rw [H1.out.2.2.2]
  go_wp2_with fail
  refine (Reach_any _ _ _ (HT.out.below ((Below.refl _ _).alloc (Nat.le_refl _) _)) (by omega)).mono ?_; rintro e w' ⟨v, rfl, hv, hb⟩
  have hb0 : Below w.heap.size w w' := bl ((Below.refl _ _).alloc (Nat.le_refl _) _) hb
  go_wp2_with fail
  refine (same_any _ _ _ [2, 3, 6, 7] _ (hv.alloc _) (ints_new _ _ .i64 [2, 3, 6, 7] (by simp [maxLen]) _)).mono ?_; rintro e w'' ⟨rfl, n, rfl⟩
  rw [ex4]
  go_wp2_with fail
  go_ret
  exact ⟨rfl, below_drewN (hb0.alloc hb0.size _) _⟩
end Go.Proofs.YtmafkncobjiabaaDoor.Modes
