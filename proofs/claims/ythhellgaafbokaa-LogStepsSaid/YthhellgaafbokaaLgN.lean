/-
  Law 16: the entry of an epoch. Conditions stand at each. By an AI agent.
-/
import Derived.Test.YthhellgaafbokaaLgP
import Derived.Test.YthhellgaafbokaaBank
import Derived.Test.YthhellgaafbokaaRegU
namespace Go.Proofs.Ythhellgaafbokaa.Lg
set_option linter.unusedVariables false
set_option linter.unusedSimpArgs false
open Go Go.RowKit Go.Proofs.Ythhellgaafbokaa.Base Go.Proofs.Ythhellgaafbokaa.Reg

theorem wrap64_in (n : Int) (h : -9223372036854775808 ≤ n ∧ n ≤ 9223372036854775807) : wrap64 n = n := by unfold wrap64; omega
theorem u64_wrap_in {n : Int} (h : 0 ≤ n ∧ n ≤ 18446744073709551615) : IntKind.u64.wrap n = n := by simp [IntKind.wrap, IntKind.bits, IntKind.signed]; omega
def HasP (log long : Int) : Prop := (1 ≤ long ∧ long ≤ 64) ∧ (0 ≤ log ∧ log ≤ 1048576)
instance (log long : Int) : Decidable (HasP log long) := inferInstanceAs (Decidable (_ ∧ _))
def entF (log long e : Int) : Int := if HasP log long then log + e % long else -1
theorem entF_ok {log long e : Int} (h : HasP log long) : entF log long e = log + e % long := if_pos h
theorem entF_bad {log long e : Int} (h : ¬ HasP log long) : entF log long e = -1 := if_neg h
theorem entF_range {log long e : Int} (h : HasP log long) : log ≤ entF log long e ∧ entF log long e < log + long := by
  rw [entF_ok h]
  have := Int.emod_nonneg e (show long ≠ 0 by have := h.1; omega)
  have := Int.emod_lt_of_pos e (show 0 < long by have := h.1; omega)
  omega
set_option maxRecDepth 100000 in
theorem within_any (n lo hi : Int) (w : World) :
    Calls Try.prog 44 #[.int .i64 n, .int .i64 lo, .int .i64 hi] w fun e w' => e = .returned (.bool (decide (lo ≤ n ∧ n ≤ hi))) ∧ w = w' := by
  by_cases h1 : lo ≤ n
  · have k1 : decide (n ≥ lo) = true := decide_eq_true h1
    by_cases h2 : n ≤ hi
    · have hd : decide (lo ≤ n ∧ n ≤ hi) = true := decide_eq_true ⟨h1, h2⟩
      have k2 : decide (n ≤ hi) = true := decide_eq_true h2
      rw [hd]
      clear hd
      go_enter Try.func44, Try.ntmps44
      go_wp2_with fail
      go_ret
      exact ⟨rfl, rfl⟩
    · have hd : decide (lo ≤ n ∧ n ≤ hi) = false := decide_eq_false (fun h => h2 h.2)
      rw [hd]
      clear hd
      have hd2 : decide (n ≤ hi) = false := decide_eq_false h2
      go_enter Try.func44, Try.ntmps44
      go_wp2_with fail
      go_ret
      exact ⟨rfl, rfl⟩
  · have hd : decide (lo ≤ n ∧ n ≤ hi) = false := decide_eq_false (fun h => h1 h.1)
    have k1 : decide (n ≥ lo) = false := decide_eq_false h1
    rw [hd]
    clear hd
    go_enter Try.func44, Try.ntmps44
    go_wp2_with fail
    go_ret
    exact ⟨rfl, rfl⟩
set_option maxRecDepth 100000 in
theorem Entry_any (log long x : Int) (w : World) (hx : 0 ≤ x ∧ x ≤ 18446744073709551615) :
    Calls Try.prog 22 #[.agg #[.int .i64 0, .int .i64 log, .int .i64 long, .slice none 0 0, .int .i64 0], .int .u64 x] w fun e w' => e = .returned (.int .i64 (entF log long x)) ∧ Below w.heap.size w w' := by
  by_cases hp : HasP log long
  · rw [entF_ok hp]
    have he : wrap64 (log + wrap64 (x.tmod long)) = log + x % long := by
      obtain ⟨⟨h1, h2⟩, h3, h4⟩ := hp
      have := Int.emod_nonneg x (show long ≠ 0 by omega)
      have := Int.emod_lt_of_pos x (show 0 < long by omega)
      rw [Int.tmod_eq_emod_of_nonneg hx.1, wrap64_in (x % long) (by omega), wrap64_in _ (by omega)]
    have HE := Lib.hid he
    have hw1 : IntKind.u64.wrap long = long := u64_wrap_in (by have := hp.1; omega)
    have hde : ¬ long = 0 := by have := hp.1; omega
    have K1 := Lib.hid (show decide ((1 : Int) ≤ long ∧ long ≤ 64) = true from decide_eq_true hp.1)
    have K2 := Lib.hid (show decide ((0 : Int) ≤ log ∧ log ≤ 1048576) = true from decide_eq_true hp.2)
    clear he hp hx
    go_enter Try.func22, Try.ntmps22
    go_wp2_with fail
    refine (within_any _ _ _ _).mono ?_; rintro e w' ⟨rfl, rfl⟩
    rw [K1.out]
    go_wp2_with fail
    refine (within_any _ _ _ _).mono ?_; rintro e w' ⟨rfl, rfl⟩
    rw [K2.out]
    go_wp2_with fail
    go_quiet (fail)
    go_wp2_with fail
    go_ret
    refine ⟨?_, below_drewN ((Below.refl _ _).alloc (Nat.le_refl _) _) _⟩
    rw [← HE.out]
    rfl
  · rw [entF_bad hp]
    by_cases h1 : (1 : Int) ≤ long ∧ long ≤ 64
    · have K1 := Lib.hid (show decide ((1 : Int) ≤ long ∧ long ≤ 64) = true from decide_eq_true h1)
      have K2 := Lib.hid (show decide ((0 : Int) ≤ log ∧ log ≤ 1048576) = false from decide_eq_false (fun h => hp ⟨h1, h⟩))
      clear hp hx h1
      go_enter Try.func22, Try.ntmps22
      go_wp2_with fail
      refine (within_any _ _ _ _).mono ?_; rintro e w' ⟨rfl, rfl⟩
      rw [K1.out]
      go_wp2_with fail
      refine (within_any _ _ _ _).mono ?_; rintro e w' ⟨rfl, rfl⟩
      rw [K2.out]
      go_wp2_with fail
      go_ret
      exact ⟨rfl, (Below.refl _ _).alloc (Nat.le_refl _) _⟩
    · have K1 := Lib.hid (show decide ((1 : Int) ≤ long ∧ long ≤ 64) = false from decide_eq_false h1)
      clear hp hx h1
      go_enter Try.func22, Try.ntmps22
      go_wp2_with fail
      refine (within_any _ _ _ _).mono ?_; rintro e w' ⟨rfl, rfl⟩
      rw [K1.out]
      go_wp2_with fail
      go_ret
      exact ⟨rfl, (Below.refl _ _).alloc (Nat.le_refl _) _⟩
end Go.Proofs.Ythhellgaafbokaa.Lg
