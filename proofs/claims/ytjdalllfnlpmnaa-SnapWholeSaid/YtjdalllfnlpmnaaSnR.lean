/-
  Law 10: the document's snapshot: New. Conditions stand at each. By an AI agent.
-/
import Derived.Test.YtjdalllfnlpmnaaSnM
namespace Go.Proofs.Ytjdalllfnlpmnaa.Bank
set_option linter.unusedVariables false
set_option linter.unusedSimpArgs false
open Go Go.RowKit Go.Proofs.Ytjdalllfnlpmnaa.Base
theorem RNew_out (v : Value) (n : Nat) (l : Nat → Spot) (tries : Int) (w : World) (h : Sps w v n l) (h0 : wrongE n l tries ≠ 0) :
    Calls Try.prog 11 #[v, .int .i64 tries] w fun e w' => e = .returned (.tuple #[.pointer none, .int .i64 (wrongE n l tries)]) ∧ Below w.heap.size w w' := by
  have HW := Lib.hid (rWrong_any v n l tries w h)
  obtain ⟨A0, c, rfl, hn, hg⟩ := h.form
  generalize wrongE n l tries = z at HW h0 ⊢
  have kz : (z != 0) = true := bne_iff_ne.mpr h0
  clear h hn hg h0
  go_enter Try.func11, Try.ntmps11
  go_wp2_with fail
  refine HW.out.mono ?_; rintro e w1 ⟨rfl, hb1⟩
  have L1 := Lib.hid hb1
  clear hb1 HW
  go_wp2_with fail
  go_ret2
  exact ⟨rfl, L1.out⟩
theorem RNew_in (A : Option Addr) (n c : Nat) (l : Nat → Spot) (tries : Int) (w : World) (h : Sps w (.slice A n c) n l) (h0 : wrongE n l tries = 0) :
    Calls Try.prog 11 #[.slice A n c, .int .i64 tries] w fun e w' => ∃ o, e = .returned (.tuple #[.pointer (some ⟨o, 0, none⟩), .int .i64 0]) ∧ w.heap.size ≤ o ∧ Below w.heap.size w w' ∧
      Blk w' o 49 #[.slice A n c, .int .i64 tries, .int .i64 1, .int .i64 0, .int .i64 0, .int .i64 0, .slice none 0 0, .slice none 0 0, .int .i64 0, .int .i64 0, .int .i64 0] := by
  have HW := Lib.hid (rWrong_any _ n l tries w h)
  rw [h0] at HW
  clear h h0
  go_enter Try.func11, Try.ntmps11
  go_wp2_with fail
  refine HW.out.mono ?_; rintro e w1 ⟨rfl, hb1⟩
  have L1 := Lib.hid hb1
  have HS := Lib.hid hb1.size
  have BN := Lib.hid (Blk.new w1 49 #[.slice A n c, .int .i64 tries, .int .i64 1, .int .i64 0, .int .i64 0, .int .i64 0, .slice none 0 0, .slice none 0 0, .int .i64 0, .int .i64 0, .int .i64 0])
  have LN := Lib.hid (hb1.alloc hb1.size (.cells #[.slice A n c, .int .i64 tries, .int .i64 1, .int .i64 0, .int .i64 0, .int .i64 0, .slice none 0 0, .slice none 0 0, .int .i64 0, .int .i64 0, .int .i64 0] 49))
  clear hb1 HW
  go_wp2_with fail
  go_ret2
  exact ⟨_, rfl, HS.out, LN.out, BN.out⟩
end Go.Proofs.Ytjdalllfnlpmnaa.Bank
