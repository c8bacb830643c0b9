/-
  ModesWays: the law's walk. Condition: the table of ways lies in block 0. By an AI agent.
-/
import Derived.Test.YtmafkncobjiabaaDoorModesF
namespace Go.Proofs.YtmafkncobjiabaaDoor.Modes
set_option linter.unusedVariables false
set_option linter.unusedSimpArgs false
open Go Go.RowKit Go.Proofs.YtmafkncobjiabaaDoor.Base Go.Deep

set_option maxHeartbeats 1000000 in
theorem ModesWays_walk (a : Int) (ba : -9223372036854775808 ≤ a ∧ a ≤ 9223372036854775807) (b : Int) (bb : -9223372036854775808 ≤ b ∧ b ≤ 9223372036854775807) (w : World) (ht : Tab w) :
    Calls Tryd.prog 3 #[.int .i64 a, .int .i64 b] w fun e w' => e = .returned (.bool true) ∧ Below w.heap.size w w' := by
  have HT := Lib.hid ht
  clear ht
  obtain ⟨f1, f2, f3⟩ := find_way a b
  have hv : ∃ x y n m : Int, findV a b = .tuple #[.agg #[.int .i64 x, .int .i64 y, .int .i64 n, .int .i64 m], .bool (wayB a b)] ∧ needZ a b = n ∧ notZ a b = m := by
    unfold findV
    cases hf : findF a b with
    | none =>
      obtain ⟨g1, g2⟩ := f3 hf
      exact ⟨0, 0, 0, 0, by rw [f1, hf]; rfl, g1, g2⟩
    | some k =>
      obtain ⟨g1, g2⟩ := f2 k hf
      exact ⟨_, _, _, _, by rw [f1, hf]; rfl, g1, g2⟩
  obtain ⟨x, y, n, m, e1, e2, e3⟩ := hv
  have E1 := Lib.hid e1
  have E2 := Lib.hid e2
  have E3 := Lib.hid e3
  clear e1 e2 e3 f1 f2 f3
  generalize hwb : wayB a b = wb at *
  have HWB := Lib.hid hwb
  clear hwb
  go_enter Tryd.func3, Tryd.ntmps3
  go_wp2_with fail
  refine (Find_any _ _ _).mono ?_
  rintro e w1 ⟨rfl, hb1⟩
  rw [E1.out]
  have HT1 := Lib.hid (HT.out.below hb1)
  go_wp2_with fail
  refine (Guard_any _ _ _ (HT1.out.below ((Below.refl _ _).alloc (Nat.le_refl _) _))).mono ?_; rintro e w' ⟨rfl, rfl⟩
  rw [E2.out, E3.out]
  go_wp2_with fail
  refine (Way_any _ _ _ (HT1.out.below ((Below.refl _ _).alloc (Nat.le_refl _) _))).mono ?_; rintro e w' ⟨rfl, rfl⟩
  rw [HWB.out]
  have hwb1 : (wb == wb) = true := by simp
  go_wp2_with fail
  refine (awake_any _ (HT1.out.below ((Below.refl _ _).alloc (Nat.le_refl _) _))).mono ?_; rintro e w2 ⟨rfl, hb2⟩
  go_wp2_with fail
  go_ret
  exact ⟨rfl, bl (hb1.alloc hb1.size _) hb2⟩
end Go.Proofs.YtmafkncobjiabaaDoor.Modes
