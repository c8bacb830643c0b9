/-
  Modes: the walks through ways and guards. Condition: the table of ways lies in block 0. By an AI agent.
-/
import Derived.Test.YtkmlikohgilnbaaDoorProg
import Derived.Test.YtkmlikohgilnbaaDoorModes
import Derived.WalkKit
import Derived.Lib.Hide
import Derived.Deep.QuietTactic
import Derived.BigQuiet
import Derived.Laws.BitsAllLaws
import Derived.Laws.BitsLemmas
namespace Go.Proofs.YtkmlikohgilnbaaDoor.Modes
set_option linter.unusedVariables false
set_option linter.unusedSimpArgs false
open Go Go.RowKit Go.Proofs.YtkmlikohgilnbaaDoor.Base

theorem mode_in (n : Int) (w : World) (h0 : 0 ≤ n) (h1 : n < 8) :
    Calls Tryd.prog 73 #[.int .i64 n] w fun e w' => e = .returned (.bool true) ∧ w = w' := by
  go_enter Tryd.func73, Tryd.ntmps73
  go_wp2
  go_ret
  exact ⟨rfl, rfl⟩
theorem mode_out (n : Int) (w : World) (h : ¬ (0 ≤ n ∧ n < 8)) :
    Calls Tryd.prog 73 #[.int .i64 n] w fun e w' => e = .returned (.bool false) ∧ w = w' := by
  by_cases h0 : 0 ≤ n
  · have h1 : ¬ n < 8 := by omega
    clear h
    go_enter Tryd.func73, Tryd.ntmps73
    go_wp2
    go_ret
    exact ⟨rfl, rfl⟩
  · clear h
    go_enter Tryd.func73, Tryd.ntmps73
    go_wp2
    go_ret
    exact ⟨rfl, rfl⟩

theorem way_any (a b : Int) (w : World) (ht : Tab w) :
    Calls Tryd.prog 71 #[.int .i64 a, .int .i64 b] w fun e w' => e = .returned (.int .i64 (wayZ a b)) ∧ w = w' := by
  by_cases ha : 0 ≤ a ∧ a < 8
  · obtain ⟨a0, a1⟩ := ha
    by_cases hb : 0 ≤ b ∧ b < 8
    · obtain ⟨b0, b1⟩ := hb
      have hc := ht (a.toNat * 8 + b.toNat) (by omega)
      rw [← wayZ_in ⟨a0, a1, b0, b1⟩] at hc
      clear ht
      go_enter Tryd.func71, Tryd.ntmps71
      go_wp2_with (go_at_call 73; refine (mode_in _ _ (by omega) (by omega)).mono ?_; rintro e w' ⟨rfl, rfl⟩)
      go_ret
      exact ⟨rfl, rfl⟩
    · have hz : wayZ a b = 0 := wayZ_out (by omega)
      rw [hz]
      clear hz ht
      go_enter Tryd.func71, Tryd.ntmps71
      go_wp2_with fail
      refine (mode_in _ _ (by omega) (by omega)).mono ?_; rintro e w' ⟨rfl, rfl⟩
      go_wp2_with fail
      refine (mode_out _ _ (by omega)).mono ?_; rintro e w' ⟨rfl, rfl⟩
      go_wp2_with fail
      go_ret
      exact ⟨rfl, rfl⟩
  · have hz : wayZ a b = 0 := wayZ_out (by omega)
    rw [hz]
    clear hz ht
    go_enter Tryd.func71, Tryd.ntmps71
    go_wp2_with fail
    refine (mode_out _ _ (by omega)).mono ?_; rintro e w' ⟨rfl, rfl⟩
    go_wp2_with fail
    go_ret
    exact ⟨rfl, rfl⟩

theorem Way_any (a b : Int) (w : World) (ht : Tab w) :
    Calls Tryd.prog 65 #[.int .i64 a, .int .i64 b] w fun e w' => e = .returned (.bool (wayB a b)) ∧ w = w' := by
  go_enter Tryd.func65, Tryd.ntmps65
  go_wp2_with (go_at_call 71; refine (way_any _ _ _ ht).mono ?_; rintro e w' ⟨rfl, rfl⟩)
  go_ret
  exact ⟨rfl, rfl⟩

theorem Guard_any (a b : Int) (w : World) (ht : Tab w) :
    Calls Tryd.prog 66 #[.int .i64 a, .int .i64 b] w fun e w' => e = .returned (.tuple #[.int .i64 (needZ a b), .int .i64 (notZ a b)]) ∧ w = w' := by
  go_enter Tryd.func66, Tryd.ntmps66
  go_wp2_with (go_at_call 71; refine (way_any _ _ _ ht).mono ?_; rintro e w' ⟨rfl, rfl⟩)
  go_ret2
  exact ⟨rfl, rfl⟩

end Go.Proofs.YtkmlikohgilnbaaDoor.Modes
