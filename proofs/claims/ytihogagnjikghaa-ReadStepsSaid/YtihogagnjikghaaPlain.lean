/-
  A spot, as the document's answer has it. No condition. By an AI agent.
-/
import Derived.Test.YtihogagnjikghaaWrA
namespace Go.Proofs.Ytihogagnjikghaa.Bank
set_option linter.unusedVariables false
set_option linter.unusedSimpArgs false
open Go Go.RowKit Go.Proofs.Ytihogagnjikghaa.Base
theorem plain_any (s : Spot) (w : World) :
    Calls Try.prog 11 #[s.val] w fun e w' => e = .returned s.val ∧ Below w.heap.size w w' := by
  obtain ⟨ow, sq, fi, wo, de⟩ := s
  unfold Spot.val
  simp only
  have BS := Lib.hid (Blk.new (w.alloc (.cells #[.int .i64 ow, .int .i64 sq, .int .i64 fi, .int .i64 wo, .int .i64 de] 23)) 38 #[.int .i64 ow, .int .i64 sq, .int .i64 fi, .int .i64 wo, .int .i64 de])
  have L0 := Lib.hid (((Below.refl w.heap.size w).alloc (Nat.le_refl _) (.cells #[.int .i64 ow, .int .i64 sq, .int .i64 fi, .int .i64 wo, .int .i64 de] 23)).alloc (by simp) (.cells #[.int .i64 ow, .int .i64 sq, .int .i64 fi, .int .i64 wo, .int .i64 de] 38))
  go_enter Try.func11, Try.ntmps11
  go_wp2_with fail
  have hb := BS.out
  simp only [World.size_alloc] at hb
  exact bodyPost_ret (results_cell_row (fn := Try.f11) rfl _ _ (w.heap.size + 1) _ _ _ _ rfl hb Try.underlying38 rfl (by kernel_rfl)) rfl ⟨rfl, L0.out⟩
end Go.Proofs.Ytihogagnjikghaa.Bank
