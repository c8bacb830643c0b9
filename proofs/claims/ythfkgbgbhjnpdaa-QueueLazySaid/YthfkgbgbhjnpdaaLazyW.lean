/-
  QueueLazy: the law. Conditions stand at each. By an AI agent.
-/
import Derived.Test.YthfkgbgbhjnpdaaLazyE
import Derived.Test.YthfkgbgbhjnpdaaLazyV
namespace Go.Proofs.Ythfkgbgbhjnpdaa.Queue
set_option linter.unusedVariables false
set_option linter.unusedSimpArgs false
open Go Go.RowKit Go.Proofs.Ythfkgbgbhjnpdaa.Base

theorem QueueLazy_walk (v0 : Value) (c : Cur) (a : Int) (ha : 0 ≤ a ∧ a ≤ 18446744073709551615) (b : Int) (hb : 0 ≤ b ∧ b ≤ 18446744073709551615) (w : World) (hc : c.Ok ∧ v0 = c.val) :
    Calls Try.prog 5 #[v0, .int .u64 a, .int .u64 b] w fun e w' => e = .returned (.bool true) ∧ Below w.heap.size w w' := by
  obtain ⟨hc, rfl⟩ := hc
  obtain ⟨lo, hi, hlh, hlo, hhi, hle⟩ : ∃ lo hi, ((¬ a > b ∧ lo = a ∧ hi = b) ∨ (a > b ∧ hi = a ∧ lo = b)) ∧ (0 ≤ lo ∧ lo ≤ 18446744073709551615) ∧ (0 ≤ hi ∧ hi ≤ 18446744073709551615) ∧ lo ≤ hi := by
    by_cases h : a > b
    · exact ⟨b, a, .inr ⟨h, rfl, rfl⟩, hb, ha, by omega⟩
    · exact ⟨a, b, .inl ⟨h, rfl, rfl⟩, ha, hb, by omega⟩
  have S1 := See_any c lo hc hlo
  have S2 := See_any c hi hc hhi
  by_cases hr : c.Right
  · by_cases h2 : Is hi
    · have h1 : Is lo := by unfold Is at *; omega
      have hok1 := seen_ok hr hc hlo.1 h1
      have hok2 := seen_ok hr hc hhi.1 h2
      have S3 := See_any (seen c lo) hi hok1 hhi
      have K1 := Count_any (seen c lo) hi hok1 hhi
      have K2 := Count_any c hi hc hhi
      have K3 := Count_any (seen c hi) hi hok2 hhi
      have T1 := Take_any c hi hc hhi
      have T2 := Take_any (seen c lo) hi hok1 hhi
      have T3 := Take_any (seen c hi) hi hok2 hhi
      rw [seeC_yes hr h1, mayE_yes hr h1] at S1
      rw [seeC_yes hr h2, mayE_yes hr h2] at S2
      rw [seeC_yes (seen_right hr h1) h2, mayE_seen hr h1 h2, seen_seen hr hlo.1 hle h2] at S3
      rw [count_seen hr hlo.1 hle h2] at K1
      rw [count_seen hr hhi.1 (Int.le_refl _) h2] at K3
      rw [takeE_seen hr hlo.1 hle h2, takeX_seen hr hlo.1 hle h2, takeC_seen hr hlo.1 hle h2] at T2
      rw [takeE_seen hr hhi.1 (Int.le_refl _) h2, takeX_seen hr hhi.1 (Int.le_refl _) h2, takeC_seen hr hhi.1 (Int.le_refl _) h2] at T3
      exact lazy_whole c a b lo hi _ _ _ _ _ _ hlh w S1 S2 S3 K1 K2 K3 T1 T2 T3
    · have e2 : mayE c hi = 10 := by unfold mayE; rw [if_pos hr, if_neg h2]
      rw [seeC_no (by rw [e2]; decide), e2] at S2
      by_cases h1 : Is lo
      · rw [seeC_yes hr h1, mayE_yes hr h1] at S1
        exact lazy_mid c a b lo hi _ Cur.zero hlh w S1 S2
      · have e1 : mayE c lo = 10 := by unfold mayE; rw [if_pos hr, if_neg h1]
        rw [seeC_no (by rw [e1]; decide), e1] at S1
        exact lazy_far c a b lo hi Cur.zero Cur.zero hlh w S1 S2
  · have e1 : mayE c lo = 1 := by unfold mayE; rw [if_neg hr]
    have e2 : mayE c hi = 1 := by unfold mayE; rw [if_neg hr]
    rw [seeC_no (by rw [e1]; decide), e1] at S1
    rw [seeC_no (by rw [e2]; decide), e2] at S2
    exact lazy_bad c a b lo hi Cur.zero Cur.zero hlh w S1 S2
end Go.Proofs.Ythfkgbgbhjnpdaa.Queue
