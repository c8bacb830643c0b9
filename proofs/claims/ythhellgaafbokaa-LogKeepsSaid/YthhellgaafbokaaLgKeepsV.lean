/-
  Law 16: LogKeeps. Printed by wip/tools/mkluv.py. Conditions stand at it. By an AI agent.
-/
import Derived.Test.YthhellgaafbokaaLgKeepsW
namespace Go.Proofs.Ythhellgaafbokaa.Lg
set_option linter.unusedVariables false
set_option linter.unusedSimpArgs false
open Go Go.RowKit Go.Proofs.Ythhellgaafbokaa.Base Go.Proofs.Ythhellgaafbokaa.Reg
set_option maxRecDepth 100000 in
set_option maxHeartbeats 4000000 in
theorem Keeps_out (v : Value) (xs : List Int) (long : Int) (w : World) (h : Ints w .i64 v xs) (ho : long < 1 ∨ long > 64 ∨ xs.length > 150) : Calls Try.prog 8 #[.int .i64 long, v] w fun e w' => e = .returned (.bool true) ∧ Below w.heap.size w w' := by
  obtain ⟨A, c, rfl, hn, _⟩ := h.form
  obtain ⟨n, hxn⟩ : ∃ n, xs.length = n := ⟨_, rfl⟩
  simp only [hxn] at hn ho ⊢
  clear hxn
  by_cases h0 : long < 1
  · have kl0 : decide (long < 1) = true := decide_eq_true h0
    clear ho h hn h0
    go_enter Try.func8, Try.ntmps8
    go_wp2_with fail
    refine (awake_any w).mono ?_; rintro e w1 ⟨rfl, hb⟩
    have L1 := Lib.hid hb
    clear hb
    go_wp2_with fail
    go_ret
    exact ⟨rfl, L1.out⟩
  · have kl0 : decide (long < 1) = false := decide_eq_false h0
    by_cases h1 : long > 64
    · have kl1 : decide (long > 64) = true := decide_eq_true h1
      have km1 : decide (64 < long) = true := kl1
      clear ho h hn h0 h1
      go_enter Try.func8, Try.ntmps8
      go_wp2_with fail
      refine (awake_any w).mono ?_; rintro e w1 ⟨rfl, hb⟩
      have L1 := Lib.hid hb
      clear hb
      go_wp2_with fail
      go_ret
      exact ⟨rfl, L1.out⟩
    · have kl1 : decide (long > 64) = false := decide_eq_false h1
      have km1 : decide (64 < long) = false := kl1
      by_cases h2 : (n : Int) > 150
      · have kl2 : decide ((n : Int) > 150) = true := decide_eq_true h2
        have km2 : decide (150 < (n : Int)) = true := kl2
        clear ho h hn h0 h1 h2
        go_enter Try.func8, Try.ntmps8
        go_wp2_with fail
        refine (awake_any w).mono ?_; rintro e w1 ⟨rfl, hb⟩
        have L1 := Lib.hid hb
        clear hb
        go_wp2_with fail
        go_ret
        exact ⟨rfl, L1.out⟩
      · have kl2 : decide ((n : Int) > 150) = false := decide_eq_false h2
        have km2 : decide (150 < (n : Int)) = false := kl2
        exact absurd ho (by omega)
theorem LogKeeps_law (long : Int) (hl : -9223372036854775808 ≤ long ∧ long ≤ 9223372036854775807) (v : Value) (xs : List Int) (w : World) (h : Ints w .i64 v xs) (_hx : ∀ x ∈ xs, (Lit.int .i64 x).wf = true) :
    Calls Try.prog 8 #[.int .i64 long, v] w fun e w' => e = .returned (.bool true) ∧ Below w.heap.size w w' := by
  by_cases ho : long < 1 ∨ long > 64 ∨ xs.length > 150
  · exact Keeps_out v xs long w h ho
  · obtain ⟨N, rfl⟩ : ∃ N : Nat, long = N := ⟨long.toNat, by omega⟩
    exact Keeps_in v xs N w h (by omega)
end Go.Proofs.Ythhellgaafbokaa.Lg
