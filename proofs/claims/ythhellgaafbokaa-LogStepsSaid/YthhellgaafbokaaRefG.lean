/-
  Reg: the walks through the reference: Right, Word, Parts, has, none, Health. Conditions stand at each. By an AI agent.
-/
import Derived.Test.YthhellgaafbokaaRegH
namespace Go.Proofs.Ythhellgaafbokaa.Reg
set_option linter.unusedVariables false
set_option linter.unusedSimpArgs false
open Go Go.RowKit Go.Proofs.Ythhellgaafbokaa.Base Go.Proofs.Ythhellgaafbokaa.Modes Go.Deep

def partsB (s : St) : Bool := decide s.Parts
def rightB (s : St) : Bool := decide (mayE s = 0)
/-- the ways through Right -/
theorem right_ways (s : St) : (partsB s = false ∧ rightB s = false ∧
      (decide (0 ≤ s.mode) = false ∨ decide (0 ≤ s.mode) = true ∧ decide (s.mode ≤ 7) = false ∨ decide (0 ≤ s.mode) = true ∧ decide (s.mode ≤ 7) = true ∧ decide (0 ≤ s.source) = false ∨
       decide (0 ≤ s.mode) = true ∧ decide (s.mode ≤ 7) = true ∧ decide (0 ≤ s.source) = true ∧ decide (s.source ≤ 3) = false ∨
       decide (0 ≤ s.mode) = true ∧ decide (s.mode ≤ 7) = true ∧ decide (0 ≤ s.source) = true ∧ decide (s.source ≤ 3) = true ∧ decide (0 ≤ s.flags) = false ∨
       decide (0 ≤ s.mode) = true ∧ decide (s.mode ≤ 7) = true ∧ decide (0 ≤ s.source) = true ∧ decide (s.source ≤ 3) = true ∧ decide (0 ≤ s.flags) = true ∧ decide (s.flags ≤ 63) = false ∨
       decide (0 ≤ s.mode) = true ∧ decide (s.mode ≤ 7) = true ∧ decide (0 ≤ s.source) = true ∧ decide (s.source ≤ 3) = true ∧ decide (0 ≤ s.flags) = true ∧ decide (s.flags ≤ 63) = true ∧ decide (s.epoch < 4503599627370496) = false)) ∨
    (partsB s = true ∧ decide (0 ≤ s.mode) = true ∧ decide (s.mode ≤ 7) = true ∧ decide (0 ≤ s.source) = true ∧ decide (s.source ≤ 3) = true ∧ decide (0 ≤ s.flags) = true ∧ decide (s.flags ≤ 63) = true ∧ decide (s.epoch < 4503599627370496) = true ∧
      (s.hold = false ∧ rightB s = true ∨ s.hold = true ∧ (s.source == 3) = true ∧ rightB s = true ∨ s.hold = true ∧ (s.source == 3) = false ∧ rightB s = false)) := by
  by_cases hp : s.Parts
  · right
    have hp' := hp
    obtain ⟨⟨a, b⟩, ⟨c, d⟩, ⟨e, f⟩, g⟩ := hp'
    refine ⟨decide_eq_true hp, decide_eq_true a, decide_eq_true (by omega), decide_eq_true c, decide_eq_true (by omega), decide_eq_true e, decide_eq_true f, decide_eq_true g, ?_⟩
    unfold rightB mayE St.Held
    rw [if_pos hp]
    by_cases h1 : s.hold = true
    · by_cases h2 : s.source = 3
      · right; left; simp [h1, h2]
      · right; right; simp [h1, h2]
    · left; simp [h1]
  · left
    refine ⟨decide_eq_false hp, by unfold rightB mayE; rw [if_neg hp]; rfl, ?_⟩
    unfold St.Parts at hp
    by_cases a : 0 ≤ s.mode
    · by_cases b : s.mode ≤ 7
      · by_cases c : 0 ≤ s.source
        · by_cases d : s.source ≤ 3
          · by_cases e : 0 ≤ s.flags
            · by_cases f : s.flags ≤ 63
              · have g : ¬ s.epoch < 4503599627370496 := by omega
                simp only [decide_eq_true a, decide_eq_true b, decide_eq_true c, decide_eq_true d, decide_eq_true e, decide_eq_true f, decide_eq_false g, and_self, or_true]
              · simp only [decide_eq_true a, decide_eq_true b, decide_eq_true c, decide_eq_true d, decide_eq_true e, decide_eq_false f, and_self, true_or, or_true]
            · simp only [decide_eq_true a, decide_eq_true b, decide_eq_true c, decide_eq_true d, decide_eq_false e, and_self, true_or, or_true]
          · simp only [decide_eq_true a, decide_eq_true b, decide_eq_true c, decide_eq_false d, and_self, true_or, or_true]
        · simp only [decide_eq_true a, decide_eq_true b, decide_eq_false c, and_self, true_or, or_true]
      · simp only [decide_eq_true a, decide_eq_false b, and_self, true_or, or_true]
    · simp only [decide_eq_false a, true_or]
set_option maxRecDepth 100000 in
set_option maxHeartbeats 8000000 in
theorem Right_any (s : St) (h : s.Ok) (w : World) : Calls Try.prog 26 #[s.val] w fun e w' => e = .returned (.tuple #[.bool (rightB s), .bool (partsB s)]) ∧ Below w.heap.size w w' := by
  have hw := right_ways s
  unfold St.val
  generalize rightB s = rb at *
  generalize partsB s = pb at *
  obtain ⟨m, so, ho, fl, ep⟩ := s
  obtain ⟨⟨m0, m1⟩, ⟨s0, s1⟩, ⟨f0, f1⟩, ⟨e0, e1⟩⟩ := h
  simp only at *
  rcases hw with ⟨rfl, rfl, q0 | ⟨q0, q1⟩ | ⟨q0, q1, q2⟩ | ⟨q0, q1, q2, q3⟩ | ⟨q0, q1, q2, q3, q4⟩ | ⟨q0, q1, q2, q3, q4, q5⟩ | ⟨q0, q1, q2, q3, q4, q5, q6⟩⟩ | ⟨rfl, q0, q1, q2, q3, q4, q5, q6, ⟨rfl, rfl⟩ | ⟨rfl, q7, rfl⟩ | ⟨rfl, q7, rfl⟩⟩
  all_goals
    go_enter Try.func26, Try.ntmps26
    go_wp2_with fail
    go_ret2
    exact ⟨rfl, (Below.refl _ _).alloc (Nat.le_refl _) _⟩
set_option maxRecDepth 100000 in
set_option maxHeartbeats 8000000 in
theorem Word_any (s : St) (h : s.Ok) (hp : s.Parts) (w : World) : Calls Try.prog 28 #[s.val] w fun e w' => e = .returned (.int .u64 (wordI s)) ∧ Below w.heap.size w w' := by
  unfold St.val wordI
  obtain ⟨m, so, ho, fl, ep⟩ := s
  obtain ⟨⟨a, b⟩, ⟨c, d⟩, ⟨e, f⟩, g⟩ := hp
  have e0 := h.epoch.1
  clear h
  simp only at *
  cases ho
  all_goals
    go_enter Try.func28, Try.ntmps28
    go_wp2_with fail
    go_ret
    refine ⟨?_, (Below.refl _ _).alloc (Nat.le_refl _) _⟩
    show Ending.returned (.int .u64 _) = _
    congr 2
    try simp only [Bool.false_eq_true, if_false, if_true]
    try omega
set_option maxRecDepth 100000 in
set_option maxHeartbeats 8000000 in
theorem Parts_any (x : Int) (hx : 0 ≤ x ∧ x ≤ 18446744073709551615) (w : World) : Calls Try.prog 47 #[.int .u64 x] w fun e w' => e = .returned (partsOf x).val ∧ Below w.heap.size w w' := by
  obtain ⟨hx0, hx1⟩ := hx
  unfold St.val partsOf
  go_enter Try.func47, Try.ntmps47
  go_wp2_with fail
  refine bodyPost_ret (v := .agg #[.int .i64 (x % 8), .int .i64 (x / 8 % 4), .bool (x / 32 % 2 == 1), .int .i64 (x / 64 % 64), .int .u64 (x / 4096)]) ?_ rfl ⟨rfl, (Below.refl _ _).alloc (Nat.le_refl _) _⟩
  simp [results, Try.results47, go_sem]
def hasF : Nat → Int → Int → Bool
  | 0, _, _ => true
  | k + 1, f, n => if n % 2 = 1 ∧ f % 2 = 0 then false else hasF k (f / 2) (n / 2)
def noneF : Nat → Int → Int → Bool
  | 0, _, _ => true
  | k + 1, f, n => if n % 2 = 1 ∧ f % 2 = 1 then false else noneF k (f / 2) (n / 2)

end Go.Proofs.Ythhellgaafbokaa.Reg
