/-
  A cursor as a value; contracts of package queue's calls on one cursor. Conditions stand at each. By an AI agent.
-/
import Derived.Test.YthcaagkgddeabaaProg
import Derived.Test.YthcaagkgddeabaaBase
import Derived.Test.YthcaagkgddeabaaHead
import Derived.WalkKit
import Derived.WalkSpells
import Derived.Lib.Hide
import Derived.Lib.SmallJoins
import Derived.Deep.QuietTactic
import Derived.BigQuiet
import Derived.BigRegion
import Derived.Laws.ResultCell
namespace Go.Proofs.Ythcaagkgddeabaa.Queue
set_option linter.unusedVariables false
set_option linter.unusedSimpArgs false
open Go Go.RowKit Go.Proofs.Ythcaagkgddeabaa.Base

structure Cur where
  next : Int
  cap : Int
  got : Int
  lost : Int
def Cur.val (c : Cur) : Value := .agg #[.int .u64 c.next, .int .i64 c.cap, .int .u64 c.got, .int .u64 c.lost]
structure Cur.Ok (c : Cur) : Prop where
  next : 0 ≤ c.next ∧ c.next ≤ 18446744073709551615
  cap : -9223372036854775808 ≤ c.cap ∧ c.cap ≤ 9223372036854775807
  got : 0 ≤ c.got ∧ c.got ≤ 18446744073709551615
  lost : 0 ≤ c.lost ∧ c.lost ≤ 18446744073709551615
def Cur.zero : Cur := ⟨0, 0, 0, 0⟩
def Cur.Right (c : Cur) : Prop := (1 ≤ c.cap ∧ c.cap ≤ 15) ∧ c.next ≤ 9223372036854775808
instance (c : Cur) : Decidable c.Right := inferInstanceAs (Decidable (_ ∧ _))
def Is (g : Int) : Prop := g < 9223372036854775808
instance (g : Int) : Decidable (Is g) := inferInstanceAs (Decidable (_ < _))
/-- what is told of a call -/
def mayE (c : Cur) (g : Int) : Int := if c.Right then (if Is g then 0 else 10) else 1
/-- a cursor that is right, seen -/
def seen (c : Cur) (g : Int) : Cur := if g < c.next then c else if g - c.next + 1 > c.cap then ⟨g - c.cap + 1, c.cap, c.got, IntKind.u64.wrap (c.lost + (g - c.next + 1 - c.cap))⟩ else c
def seeC (c : Cur) (g : Int) : Cur := if mayE c g = 0 then seen c g else Cur.zero
def waits (c : Cur) (g : Int) : Int := if g < c.next then 0 else g - c.next + 1
def countC (c : Cur) (g : Int) : Int := if mayE c g = 0 then waits (seen c g) g else 0
def takeE (c : Cur) (g : Int) : Int := if mayE c g = 0 then (if g < (seen c g).next then 14 else 0) else mayE c g
def takeX (c : Cur) (g : Int) : Int := if takeE c g = 0 then (seen c g).next else 0
def takeC (c : Cur) (g : Int) : Cur := if takeE c g = 0 then ⟨(seen c g).next + 1, (seen c g).cap, IntKind.u64.wrap ((seen c g).got + 1), (seen c g).lost⟩ else Cur.zero

theorem u64_wrap_range (x : Int) : 0 ≤ IntKind.u64.wrap x ∧ IntKind.u64.wrap x ≤ 18446744073709551615 := by
  simp only [IntKind.wrap_u64]; omega

theorem may_in (n : Int) (h1 : 1 ≤ n) (h2 : n ≤ 15) (w : World) : Calls Try.prog 53 #[.int .i64 n] w fun e w' => e = .returned (.bool true) ∧ w = w' := by
  go_enter Try.func53, Try.ntmps53
  go_wp2_with fail
  go_ret
  exact ⟨rfl, rfl⟩
theorem may_out (n : Int) (h : n < 1 ∨ 15 < n) (w : World) : Calls Try.prog 53 #[.int .i64 n] w fun e w' => e = .returned (.bool false) ∧ w = w' := by
  by_cases h1 : n < 1
  · have h1' : ¬ 1 ≤ n := by omega
    have h3 : decide (1 ≤ n) = false := decide_eq_false h1'
    go_enter Try.func53, Try.ntmps53
    go_wp2_with fail
    go_ret
    exact ⟨rfl, rfl⟩
  · have h1' : 1 ≤ n := by omega
    have h2 : ¬ n ≤ 15 := by omega
    have h3 : decide (1 ≤ n) = true := decide_eq_true h1'
    have h4 : decide (n ≤ 15) = false := decide_eq_false h2
    go_enter Try.func53, Try.ntmps53
    go_wp2_with fail
    go_ret
    exact ⟨rfl, rfl⟩

theorem right_any (c : Cur) (w : World) : Calls Try.prog 77 #[c.val] w fun e w' => e = .returned (.bool (decide c.Right)) ∧ w' = w.alloc (.cells #[.int .u64 c.next, .int .i64 c.cap, .int .u64 c.got, .int .u64 c.lost] 44) := by
  obtain ⟨nx, cp, gt, ls⟩ := c
  unfold Cur.val
  by_cases h1 : 1 ≤ cp ∧ cp ≤ 15
  · by_cases h2 : nx ≤ 9223372036854775808
    · have h3 : decide (nx ≤ 9223372036854775808) = true := decide_eq_true h2
      rw [show decide (Cur.Right ⟨nx, cp, gt, ls⟩) = true from decide_eq_true ⟨h1, h2⟩]
      go_enter Try.func77, Try.ntmps77
      go_wp2_with fail
      refine (may_in cp h1.1 h1.2 _).mono ?_; rintro e w' ⟨rfl, rfl⟩
      go_wp2_with fail
      go_ret
      exact ⟨rfl, rfl⟩
    · have h3 : decide (nx ≤ 9223372036854775808) = false := decide_eq_false h2
      rw [show decide (Cur.Right ⟨nx, cp, gt, ls⟩) = false from decide_eq_false fun h => h2 h.2]
      go_enter Try.func77, Try.ntmps77
      go_wp2_with fail
      refine (may_in cp h1.1 h1.2 _).mono ?_; rintro e w' ⟨rfl, rfl⟩
      go_wp2_with fail
      go_ret
      exact ⟨rfl, rfl⟩
  · rw [show decide (Cur.Right ⟨nx, cp, gt, ls⟩) = false from decide_eq_false fun h => h1 h.1]
    have h2 : cp < 1 ∨ 15 < cp := by omega
    go_enter Try.func77, Try.ntmps77
    go_wp2_with fail
    refine (may_out cp h2 _).mono ?_; rintro e w' ⟨rfl, rfl⟩
    go_wp2_with fail
    go_ret
    exact ⟨rfl, rfl⟩

theorem New_in (g n : Int) (hg : 0 ≤ g ∧ g < 9223372036854775808) (h1 : 1 ≤ n) (h2 : n ≤ 15) (w : World) :
    Calls Try.prog 19 #[.int .u64 g, .int .i64 n] w fun e w' => e = .returned (.tuple #[(Cur.mk (g + 1) n 0 0).val, .int .i64 0]) ∧ Below w.heap.size w w' := by
  obtain ⟨hg0, hg1⟩ := hg
  have h3 : decide (9223372036854775808 ≤ g) = false := decide_eq_false (by omega)
  go_enter Try.func19, Try.ntmps19
  go_wp2_with fail
  refine (may_in n h1 h2 _).mono ?_; rintro e w' ⟨rfl, rfl⟩
  go_wp2_with fail
  (try simp only [Exit.inBlock, Exit.then])
  refine bodyPost_ret (v := .tuple #[(Cur.mk (g + 1) n 0 0).val, .int .i64 0]) ?_ rfl ⟨rfl, ?_⟩
  · rw [results_cell_tmp rfl]; go_simp; rfl
  · repeat (first | exact (Below.refl _ _).alloc (Nat.le_refl _) _ | refine Below.setCell ?_ (Nat.le_refl _) _)
theorem New_out (g n : Int) (hg : 0 ≤ g) (hx : 9223372036854775808 ≤ g ∨ n < 1 ∨ 15 < n) (w : World) :
    Calls Try.prog 19 #[.int .u64 g, .int .i64 n] w fun e w' => e = .returned (.tuple #[Cur.zero.val, .int .i64 10]) ∧ Below w.heap.size w w' := by
  by_cases hg1 : 9223372036854775808 ≤ g
  · have h3 : decide (9223372036854775808 ≤ g) = true := decide_eq_true (by omega)
    go_enter Try.func19, Try.ntmps19
    go_wp2_with fail
    (try simp only [Exit.inBlock, Exit.then])
    refine bodyPost_ret (v := .tuple #[Cur.zero.val, .int .i64 10]) ?_ rfl ⟨rfl, ?_⟩
    · rw [results_cell_tmp rfl]; go_simp; rfl
    · repeat (first | exact (Below.refl _ _).alloc (Nat.le_refl _) _ | refine Below.setCell ?_ (Nat.le_refl _) _)
  · have h3 : decide (9223372036854775808 ≤ g) = false := decide_eq_false (by omega)
    have hn : n < 1 ∨ 15 < n := by omega
    go_enter Try.func19, Try.ntmps19
    go_wp2_with fail
    refine (may_out n hn _).mono ?_; rintro e w' ⟨rfl, rfl⟩
    go_wp2_with fail
    (try simp only [Exit.inBlock, Exit.then])
    refine bodyPost_ret (v := .tuple #[Cur.zero.val, .int .i64 10]) ?_ rfl ⟨rfl, ?_⟩
    · rw [results_cell_tmp rfl]; go_simp; rfl
    · repeat (first | exact (Below.refl _ _).alloc (Nat.le_refl _) _ | refine Below.setCell ?_ (Nat.le_refl _) _)

end Go.Proofs.Ythcaagkgddeabaa.Queue
