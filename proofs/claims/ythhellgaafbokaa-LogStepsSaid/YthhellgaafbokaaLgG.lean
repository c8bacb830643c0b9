/-
  Log: Gaps. Conditions stand at each. By an AI agent.
-/
import Derived.Test.YthhellgaafbokaaLgS
import Derived.Test.YthhellgaafbokaaBank
namespace Go.Proofs.Ythhellgaafbokaa.Lg
set_option linter.unusedVariables false
set_option linter.unusedSimpArgs false
open Go Go.RowKit Go.Proofs.Ythhellgaafbokaa.Base Go.Proofs.Ythhellgaafbokaa.Reg
theorem Sts.epoch {w : World} {v : Value} {n : Nat} {l : Nat → St} (h : Sts w v n l) {i : Nat} (hi : i < n) : 0 ≤ (l i).epoch ∧ (l i).epoch ≤ 18446744073709551615 := (h.ok i hi).epoch
theorem gaps_num {n m : Nat} {l : Nat → St} (hm : n = m + 1) (hn : n ≤ maxLen) (h : SoundF n l) (hok : ∀ i, i < n → (l i).Ok) (c : Int) (hc : c = (m : Int)) :
    IntKind.u64.wrap (IntKind.u64.wrap ((l m).epoch - (l 0).epoch) - IntKind.u64.wrap c) = gapsF n l := by
  obtain ⟨e, h0⟩ := gapsF_ok (by omega) h
  have g := h.gap (i := 0) (j := m) (by omega) (by omega)
  have a := (hok m (by omega)).epoch
  have b := (hok 0 (by omega)).epoch
  rw [show n - 1 = m by omega] at e
  have hn' : m ≤ 9223372036854775807 := by unfold maxLen at hn; omega
  subst hc
  rw [Bank.u64_wrap_in (x := (l m).epoch - (l 0).epoch) (by omega), Bank.u64_wrap_in (x := (m : Int)) (by omega), Bank.u64_wrap_in (by rw [e] at h0; omega), e]
set_option maxRecDepth 100000 in
set_option maxHeartbeats 4000000 in
theorem Gaps_any (v : Value) (n : Nat) (l : Nat → St) (w : World) (h : Sts w v n l) : Calls Try.prog 12 #[v] w fun e w' => e = .returned (.int .u64 (gapsF n l)) ∧ Below w.heap.size w w' := by
  have HS := Lib.hid (Sound_any v n l w h)
  have H := Lib.hid h
  obtain ⟨A, c, rfl, hn, hg⟩ := h.form
  have HG := Lib.hid hg
  have HN := Lib.hid hn
  clear h hn hg
  by_cases h0 : n = 0
  · have k0 : ((n : Int) == 0) = true := by simp [h0]
    have k1 : decide ((n : Int) = 0) = true := by simp [h0]
    have GE := Lib.hid (show gapsF n l = 0 by rw [h0]; exact gapsF_nil)
    clear h0
    go_enter Try.func12, Try.ntmps12
    go_wp2_with fail
    go_ret
    exact ⟨by rw [GE.out]; rfl, Below.refl _ _⟩
  · have k0 : ((n : Int) == 0) = false := by simp [h0]
    have k1 : decide ((n : Int) = 0) = false := by simp [h0]
    by_cases hs : SoundF n l
    · rw [decide_eq_true hs] at HS
      obtain ⟨b, o, rfl, hb, hc⟩ := HG.out (by omega)
      obtain ⟨m, hm⟩ : ∃ m, n = m + 1 := ⟨n - 1, by omega⟩
      have hw : wrap64 ((n : Int) - 1) = (m : Int) := by have := HN.out; unfold maxLen at this; unfold wrap64; omega
      have km0 : (0 : Int) ≤ (m : Int) := by omega
      have km1 : (m : Int) < (n : Int) := by omega
      have kz1 : (0 : Int) < (n : Int) := by omega
      have GE := Lib.hid (gaps_num hm HN.out hs H.out.ok (m : Int) rfl)
      have CL := Lib.hid (hc m (by omega)).2.2.2.2
      have CF := Lib.hid (hc 0 (by omega)).2.2.2.2
      have HB := Lib.hid hb
      clear h0 hs hm hb hc
      go_enter Try.func12, Try.ntmps12
      go_wp2_with fail
      refine HS.out.mono ?_; rintro e w1 ⟨rfl, hb1⟩
      have hz := (hb1.cell (p := ⟨b, o + m * 5 + 4, none⟩) HB.out).trans CL.out
      have hf := (hb1.cell (p := ⟨b, o + 0 * 5 + 4, none⟩) HB.out).trans CF.out
      simp only [Nat.zero_mul, Nat.add_zero] at hf
      have L1 := Lib.hid hb1
      clear hb1
      go_wp2_with fail
      go_quiet (fail)
      go_wp2_with fail
      go_ret
      exact ⟨by rw [← GE.out]; rfl, below_drewN L1.out _⟩
    · rw [decide_eq_false hs] at HS
      have GE := Lib.hid (gapsF_bad hs)
      clear h0 hs
      go_enter Try.func12, Try.ntmps12
      go_wp2_with fail
      refine HS.out.mono ?_; rintro e w1 ⟨rfl, hb1⟩
      have L1 := Lib.hid hb1
      clear hb1
      go_wp2_with fail
      go_ret
      exact ⟨by rw [GE.out]; rfl, L1.out⟩
end Go.Proofs.Ythhellgaafbokaa.Lg
