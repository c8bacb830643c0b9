/-
  A spot, as the document's answer has it. No condition. By an AI agent.
-/
import Derived.Test.YtpfjadgcnaffgaaWrA
namespace Go.Proofs.Ytpfjadgcnaffgaa.Bank
set_option linter.unusedVariables false
set_option linter.unusedSimpArgs false
open Go Go.RowKit Go.Proofs.Ytpfjadgcnaffgaa.Base
theorem plain_any (s : Spot) (w : World) :
    Calls Try.prog 13 #[s.val] w fun e w' => e = .returned s.val ∧ Below w.heap.size w w' := by
  obtain ⟨ow, sq, fi, wo, de⟩ := s
  unfold Spot.val
  simp only
  have BS := Lib.hid (Blk.new (w.alloc (.cells #[.int .i64 ow, .int .i64 sq, .int .i64 fi, .int .i64 wo, .int .i64 de] 23)) 45 #[.int .i64 ow, .int .i64 sq, .int .i64 fi, .int .i64 wo, .int .i64 de])
  have L0 := Lib.hid (((Below.refl w.heap.size w).alloc (Nat.le_refl _) (.cells #[.int .i64 ow, .int .i64 sq, .int .i64 fi, .int .i64 wo, .int .i64 de] 23)).alloc (by simp) (.cells #[.int .i64 ow, .int .i64 sq, .int .i64 fi, .int .i64 wo, .int .i64 de] 45))
  go_enter Try.func13, Try.ntmps13
  go_wp2_with fail
  have hb := BS.out
  simp only [World.size_alloc] at hb
  exact bodyPost_ret (results_cell_row (fn := Try.f13) rfl _ _ (w.heap.size + 1) _ _ _ _ rfl hb Try.underlying45 rfl (by kernel_rfl)) rfl ⟨rfl, L0.out⟩
/-- whether a record is too long -/
def longB (n0 n1 n2 : Nat) : Bool := decide (70 < n0) || (decide (70 < n1) || decide (70 < n2))
theorem long_any (A0 A1 A2 : Option Addr) (n0 n1 n2 c0 c1 c2 : Nat) (t0 t1 t2 : Int) (w : World) :
    Calls Try.prog 8 #[.agg #[.slice A0 n0 c0, .int .i64 t0, .slice A1 n1 c1, .int .i64 t1, .slice A2 n2 c2, .int .i64 t2]] w fun e w' => e = .returned (.bool (longB n0 n1 n2)) ∧ Below w.heap.size w w' := by
  have L0 := Lib.hid ((Below.refl w.heap.size w).alloc (Nat.le_refl _) (.cells #[.slice A0 n0 c0, .int .i64 t0, .slice A1 n1 c1, .int .i64 t1, .slice A2 n2 c2, .int .i64 t2] 27))
  unfold longB
  by_cases h0 : 70 < n0
  · have k0 : decide ((n0 : Int) > 70) = true := decide_eq_true (by omega)
    rw [decide_eq_true h0]
    clear h0
    go_enter Try.func8, Try.ntmps8
    go_wp2_with fail
    go_ret
    exact ⟨rfl, L0.out⟩
  have k0 : decide ((n0 : Int) > 70) = false := decide_eq_false (by omega)
  rw [decide_eq_false h0]
  by_cases h1 : 70 < n1
  · have k1 : decide ((n1 : Int) > 70) = true := decide_eq_true (by omega)
    rw [decide_eq_true h1]
    clear h0 h1
    go_enter Try.func8, Try.ntmps8
    go_wp2_with fail
    go_ret
    exact ⟨rfl, L0.out⟩
  have k1 : decide ((n1 : Int) > 70) = false := decide_eq_false (by omega)
  rw [decide_eq_false h1]
  by_cases h2 : 70 < n2
  · have k2 : decide ((n2 : Int) > 70) = true := decide_eq_true (by omega)
    rw [decide_eq_true h2]
    clear h0 h1 h2
    go_enter Try.func8, Try.ntmps8
    go_wp2_with fail
    go_ret
    exact ⟨rfl, L0.out⟩
  · have k2 : decide ((n2 : Int) > 70) = false := decide_eq_false (by omega)
    rw [decide_eq_false h2]
    clear h0 h1 h2
    go_enter Try.func8, Try.ntmps8
    go_wp2_with fail
    go_ret
    exact ⟨rfl, L0.out⟩
end Go.Proofs.Ytpfjadgcnaffgaa.Bank
