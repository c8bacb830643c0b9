/-
  Law 16: LogSounds. Printed by wip/tools/mkluv.py. Conditions stand at it. By an AI agent.
-/
import Derived.Test.YthhellgaafbokaaLgSounds
namespace Go.Proofs.Ythhellgaafbokaa.Lg
set_option linter.unusedVariables false
set_option linter.unusedSimpArgs false
open Go Go.RowKit Go.Proofs.Ythhellgaafbokaa.Base Go.Proofs.Ythhellgaafbokaa.Reg
set_option maxRecDepth 100000 in
set_option maxHeartbeats 4000000 in
theorem Sounds_out (v : Value) (n : Nat) (l : Nat → Tn) (at_ long : Int) (w : World) (h : Tns w v n l) (ho : at_ < 0 ∨ at_ > 16 ∨ long < 1 ∨ long > 64 ∨ n > 200) : Calls Try.prog 5 #[.int .i64 at_, .int .i64 long, v] w fun e w' => e = .returned (.bool true) ∧ Below w.heap.size w w' := by
  obtain ⟨A, c, rfl, hn, _⟩ := h.form
  by_cases h0 : at_ < 0
  · have kl0 : decide (at_ < 0) = true := decide_eq_true h0
    clear ho h hn h0
    go_enter Try.func5, Try.ntmps5
    go_wp2_with fail
    refine (awake_any w).mono ?_; rintro e w1 ⟨rfl, hb⟩
    have L1 := Lib.hid hb
    clear hb
    go_wp2_with fail
    go_ret
    exact ⟨rfl, L1.out⟩
  · have kl0 : decide (at_ < 0) = false := decide_eq_false h0
    by_cases h1 : at_ > 16
    · have kl1 : decide (at_ > 16) = true := decide_eq_true h1
      have km1 : decide (16 < at_) = true := kl1
      clear ho h hn h0 h1
      go_enter Try.func5, Try.ntmps5
      go_wp2_with fail
      refine (awake_any w).mono ?_; rintro e w1 ⟨rfl, hb⟩
      have L1 := Lib.hid hb
      clear hb
      go_wp2_with fail
      go_ret
      exact ⟨rfl, L1.out⟩
    · have kl1 : decide (at_ > 16) = false := decide_eq_false h1
      have km1 : decide (16 < at_) = false := kl1
      by_cases h2 : long < 1
      · have kl2 : decide (long < 1) = true := decide_eq_true h2
        clear ho h hn h0 h1 h2
        go_enter Try.func5, Try.ntmps5
        go_wp2_with fail
        refine (awake_any w).mono ?_; rintro e w1 ⟨rfl, hb⟩
        have L1 := Lib.hid hb
        clear hb
        go_wp2_with fail
        go_ret
        exact ⟨rfl, L1.out⟩
      · have kl2 : decide (long < 1) = false := decide_eq_false h2
        by_cases h3 : long > 64
        · have kl3 : decide (long > 64) = true := decide_eq_true h3
          have km3 : decide (64 < long) = true := kl3
          clear ho h hn h0 h1 h2 h3
          go_enter Try.func5, Try.ntmps5
          go_wp2_with fail
          refine (awake_any w).mono ?_; rintro e w1 ⟨rfl, hb⟩
          have L1 := Lib.hid hb
          clear hb
          go_wp2_with fail
          go_ret
          exact ⟨rfl, L1.out⟩
        · have kl3 : decide (long > 64) = false := decide_eq_false h3
          have km3 : decide (64 < long) = false := kl3
          by_cases h4 : (n : Int) > 200
          · have kl4 : decide ((n : Int) > 200) = true := decide_eq_true h4
            have km4 : decide (200 < (n : Int)) = true := kl4
            clear ho h hn h0 h1 h2 h3 h4
            go_enter Try.func5, Try.ntmps5
            go_wp2_with fail
            refine (awake_any w).mono ?_; rintro e w1 ⟨rfl, hb⟩
            have L1 := Lib.hid hb
            clear hb
            go_wp2_with fail
            go_ret
            exact ⟨rfl, L1.out⟩
          · have kl4 : decide ((n : Int) > 200) = false := decide_eq_false h4
            have km4 : decide (200 < (n : Int)) = false := kl4
            exact absurd ho (by omega)
theorem LogSounds_law (at_ : Int) (ha : -9223372036854775808 ≤ at_ ∧ at_ ≤ 9223372036854775807) (long : Int) (hl : -9223372036854775808 ≤ long ∧ long ≤ 9223372036854775807) (v : Value) (x : Nat × (Nat → Tn)) (w : World) (h : Tns w v x.1 x.2) :
    Calls Try.prog 5 #[.int .i64 at_, .int .i64 long, v] w fun e w' => e = .returned (.bool true) ∧ Below w.heap.size w w' := by
  by_cases ho : at_ < 0 ∨ at_ > 16 ∨ long < 1 ∨ long > 64 ∨ x.1 > 200
  · exact Sounds_out v x.1 x.2 at_ long w h ho
  · exact Sounds_in v x.1 x.2 at_ long w h (by omega)
end Go.Proofs.Ythhellgaafbokaa.Lg
