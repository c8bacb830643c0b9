/-
  QueueCursors: the law. Conditions stand at each. By an AI agent.
-/
import Derived.Test.YthfkgbgbhjnpdaaCursA
import Derived.Test.YthfkgbgbhjnpdaaCursB
import Derived.Test.YthfkgbgbhjnpdaaCursC
namespace Go.Proofs.Ythfkgbgbhjnpdaa.Queue
set_option linter.unusedVariables false
set_option linter.unusedSimpArgs false
open Go Go.RowKit Go.Proofs.Ythfkgbgbhjnpdaa.Base

theorem QueueCursors_walk (v0 : Value) (c : Cur) (g : Int) (hg : 0 ≤ g ∧ g ≤ 18446744073709551615) (room : Int) (hroom : -9223372036854775808 ≤ room ∧ room ≤ 9223372036854775807) (w : World) (hc : c.Ok ∧ v0 = c.val) :
    Calls Try.prog 6 #[v0, .int .u64 g, .int .i64 room] w fun e w' => e = .returned (.bool true) ∧ Below w.heap.size w w' := by
  obtain ⟨hc, rfl⟩ := hc
  have S := See_any c g hc hg
  have Tk := Take_any c g hc hg
  have K := Count_any c g hc hg
  have M := refMay_any c g
  have I : ∀ w, Calls Try.prog 17 #[.int .u64 g] w fun e w' => e = .returned (.bool (decide (g < 9223372036854775808))) ∧ Below w.heap.size w w' := fun w => (Is_any g w).mono fun _ _ ⟨he, hw⟩ => ⟨he, hw ▸ Below.refl _ _⟩
  by_cases hi : Is g
  · have hi' : g < 9223372036854775808 := hi
    rw [decide_eq_true hi'] at I
    by_cases hr : c.Right
    · have e0 := mayE_yes hr hi
      have hok := seen_ok hr hc hg.1 hi
      have hw := seen_waits (g := g) hr hc hg.1
      have hr' := hr.1.2
      have RS := refSee_any c g hc hg.1 hr hi
      have Wt : ∀ w, Calls Try.prog 20 #[(seen c g).val, .int .u64 g] w fun e w' => e = .returned (.int .u64 (waits (seen c g) g)) ∧ Below w.heap.size w w' := fun w => (Waits_any (seen c g) g hok.next.1 hg.1 hi w).mono fun _ _ ⟨he, hw⟩ => ⟨he, hw ▸ (Below.refl _ _).alloc (Nat.le_refl _) _⟩
      have SM := same_any (seen c g)
      rw [seeC_yes hr hi, e0] at S
      rw [e0] at M
      rw [show countC c g = waits (seen c g) g by unfold countC; rw [if_pos e0]] at K
      by_cases hn : g < (seen c g).next
      · have t1 : takeE c g = 14 := by unfold takeE; rw [if_pos e0, if_pos hn]
        have t2 : takeX c g = 0 := by unfold takeX; rw [t1]; rfl
        have t3 : takeC c g = Cur.zero := by unfold takeC; rw [t1]; rfl
        rw [t1, t2, t3] at Tk
        rw [show waits (seen c g) g = 0 by unfold waits; rw [if_pos hn]] at K Wt
        by_cases h1 : room < 1
        · exact curs_A2_n0 c g room _ 0 0 w hg.1 hg.2 hi' (decide_eq_true h1) (New_out g room hg.1 (.inr (.inl h1))) I S Tk M K RS Wt SM
        · by_cases h2 : 15 < room
          · exact curs_A3_n0 c g room _ 0 0 w hg.1 hg.2 hi' (decide_eq_false h1) (decide_eq_true h2) (New_out g room hg.1 (.inr (.inr h2))) I S Tk M K RS Wt SM
          · exact curs_A4_n0 c g room _ 0 0 w hg.1 hg.2 hi' (decide_eq_false h1) (decide_eq_false h2) (New_in g room ⟨hg.1, hi'⟩ (by omega) (by omega)) I S Tk M K RS Wt SM
      · have t1 : takeE c g = 0 := by unfold takeE; rw [if_pos e0, if_neg hn]
        have t2 : takeX c g = (seen c g).next := by unfold takeX; rw [if_pos t1]
        have t3 : takeC c g = ⟨(seen c g).next + 1, (seen c g).cap, IntKind.u64.wrap ((seen c g).got + 1), (seen c g).lost⟩ := by unfold takeC; rw [if_pos t1]
        rw [t1, t2, t3] at Tk
        have SM2 := same_any ⟨(seen c g).next + 1, (seen c g).cap, IntKind.u64.wrap ((seen c g).got + 1), (seen c g).lost⟩
        have hwn : waits (seen c g) g = g - (seen c g).next + 1 := by unfold waits; rw [if_neg hn]
        have hnz : (waits (seen c g) g == 0) = false := by simp; omega
        have hm0 := hok.next.1
        have hm1 : (seen c g).next < 9223372036854775808 := by omega
        by_cases h1 : room < 1
        · exact curs_A2_np c g room _ 0 _ w hg.1 hg.2 hi' (decide_eq_true h1) hnz hw.1 (by omega) hm0 hm1 (New_out g room hg.1 (.inr (.inl h1))) I S Tk M K RS Wt SM SM2
        · by_cases h2 : 15 < room
          · exact curs_A3_np c g room _ 0 _ w hg.1 hg.2 hi' (decide_eq_false h1) (decide_eq_true h2) hnz hw.1 (by omega) hm0 hm1 (New_out g room hg.1 (.inr (.inr h2))) I S Tk M K RS Wt SM SM2
          · exact curs_A4_np c g room _ 0 _ w hg.1 hg.2 hi' (decide_eq_false h1) (decide_eq_false h2) hnz hw.1 (by omega) hm0 hm1 (New_in g room ⟨hg.1, hi'⟩ (by omega) (by omega)) I S Tk M K RS Wt SM SM2
    · have e1 : mayE c g = 1 := by unfold mayE; rw [if_neg hr]
      have t1 : takeE c g = 1 := by unfold takeE; rw [if_neg (by rw [e1]; decide), e1]
      have t2 : takeX c g = 0 := by unfold takeX; rw [t1]; rfl
      have t3 : takeC c g = Cur.zero := by unfold takeC; rw [t1]; rfl
      rw [t1, t2, t3] at Tk
      rw [seeC_no (by rw [e1]; decide), e1] at S
      rw [e1] at M
      rw [show countC c g = 0 by unfold countC; rw [if_neg (by rw [e1]; decide)]] at K
      by_cases h1 : room < 1
      · exact curs_A2_bad c g room c 1 0 w hg.1 hg.2 hi' (decide_eq_true h1) rfl (New_out g room hg.1 (.inr (.inl h1))) I S Tk M K
      · by_cases h2 : 15 < room
        · exact curs_A3_bad c g room c 1 0 w hg.1 hg.2 hi' (decide_eq_false h1) (decide_eq_true h2) rfl (New_out g room hg.1 (.inr (.inr h2))) I S Tk M K
        · exact curs_A4_bad c g room c 1 0 w hg.1 hg.2 hi' (decide_eq_false h1) (decide_eq_false h2) rfl (New_in g room ⟨hg.1, hi'⟩ (by omega) (by omega)) I S Tk M K
  · have hi' : ¬ g < 9223372036854775808 := hi
    rw [decide_eq_false hi'] at I
    have e1 : mayE c g ≠ 0 := by unfold mayE; rw [if_neg hi]; split <;> decide
    have t1 : takeE c g = mayE c g := by unfold takeE; rw [if_neg e1]
    have t2 : takeX c g = 0 := by unfold takeX; rw [t1, if_neg e1]
    have t3 : takeC c g = Cur.zero := by unfold takeC; rw [t1, if_neg e1]
    rw [t1, t2, t3] at Tk
    rw [seeC_no e1] at S
    rw [show countC c g = 0 by unfold countC; rw [if_neg e1]] at K
    exact curs_A1_bad c g room c (mayE c g) 0 w hg.1 hg.2 (by simpa using e1) (New_out g room hg.1 (.inl (by omega))) I S Tk M K
end Go.Proofs.Ythfkgbgbhjnpdaa.Queue
