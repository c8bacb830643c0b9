/-
  Law 16: LogGaps' walk. Conditions stand at it. By an AI agent.
-/
import Derived.Test.YthhellgaafbokaaLgW
namespace Go.Proofs.Ythhellgaafbokaa.Lg
set_option linter.unusedVariables false
set_option linter.unusedSimpArgs false
open Go Go.RowKit Go.Proofs.Ythhellgaafbokaa.Base Go.Proofs.Ythhellgaafbokaa.Reg
set_option maxRecDepth 100000 in
set_option maxHeartbeats 4000000 in
theorem LogGaps_law (v : Value) (x : Nat × (Nat → St)) (w : World) (h : Sts w v x.1 x.2) : Calls Try.prog 3 #[v] w fun e w' => e = .returned (.bool true) ∧ Below w.heap.size w w' := by
  obtain ⟨n, l⟩ := x
  simp only at h
  obtain ⟨A, c, rfl, hn, _⟩ := h.form
  have H := Lib.hid h
  by_cases h100 : n ≤ 100
  · have kd : decide ((n : Int) > 100) = false := decide_eq_false (by omega)
    have HS := Lib.hid (fun W (hb : Below w.heap.size w W) => Sound_any _ n l W (h.below hb))
    have HR := Lib.hid (fun W (hb : Below w.heap.size w W) => RSound_any _ n l W (h.below hb))
    have HG := Lib.hid (fun W (hb : Below w.heap.size w W) => Gaps_any _ n l W (h.below hb))
    have HT := Lib.hid (fun W (hb : Below w.heap.size w W) => RGaps_any _ n l W (h.below hb) h100)
    obtain ⟨sb, hsb⟩ : ∃ sb, decide (SoundF n l) = sb := ⟨_, rfl⟩
    obtain ⟨gp, hgp⟩ : ∃ gp, gapsF n l = gp := ⟨_, rfl⟩
    rw [hsb] at HS HR
    rw [hgp] at HG HT
    have kb : (sb == sb) = true := by simp
    have kg : (gp == gp) = true := by simp
    clear hsb hgp h hn h100
    go_enter Try.func3, Try.ntmps3
    go_wp2_with fail
    refine (HS.out w (Below.refl _ _)).mono ?_; rintro e w1 ⟨rfl, hb⟩
    have L1 := Lib.hid hb
    clear hb
    go_wp2_with fail
    refine (HR.out w1 L1.out).mono ?_; rintro e w2 ⟨rfl, hb⟩
    have L2 := Lib.hid (bl L1.out hb)
    clear hb
    go_wp2_with fail
    refine (HG.out w2 L2.out).mono ?_; rintro e w3 ⟨rfl, hb⟩
    have L3 := Lib.hid (bl L2.out hb)
    clear hb
    go_wp2_with fail
    refine (HT.out w3 L3.out).mono ?_; rintro e w4 ⟨rfl, hb⟩
    have L4 := Lib.hid (bl L3.out hb)
    clear hb
    go_wp2_with fail
    refine (awake_any w4).mono ?_; rintro e w5 ⟨rfl, hb⟩
    have L5 := Lib.hid (bl L4.out hb)
    clear hb
    go_wp2_with fail
    go_ret
    exact ⟨rfl, L5.out⟩
  · have kd : decide ((n : Int) > 100) = true := decide_eq_true (by omega)
    clear h hn h100
    go_enter Try.func3, Try.ntmps3
    go_wp2_with fail
    refine (awake_any w).mono ?_; rintro e w5 ⟨rfl, hb⟩
    have L5 := Lib.hid hb
    clear hb
    go_wp2_with fail
    go_ret
    exact ⟨rfl, L5.out⟩
end Go.Proofs.Ythhellgaafbokaa.Lg
