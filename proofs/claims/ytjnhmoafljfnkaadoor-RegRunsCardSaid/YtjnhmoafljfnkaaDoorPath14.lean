/-
  Modes: the walk through Path. Condition: the table of ways lies in block 0. By an AI agent.
-/
import Derived.Test.YtjnhmoafljfnkaaDoorWays14
namespace Go.Proofs.YtjnhmoafljfnkaaDoor.Modes
set_option linter.unusedVariables false
set_option linter.unusedSimpArgs false
open Go Go.RowKit Go.Proofs.YtjnhmoafljfnkaaDoor.Base

theorem Path_any (v : Value) (xs : List Int) (w : World) (ht : Tab w) (h : Ints w .i64 v xs) :
    Calls Tryd.prog 22 #[v] w fun e w' => e = .returned (.tuple #[.int .i64 (pathF xs).1, .bool (pathF xs).2]) ∧ w = w' := by
  obtain ⟨A, c, rfl, hl, h⟩ := h.form
  have HT := Lib.hid ht
  clear ht
  unfold maxLen at hl
  go_enter Tryd.func22, Tryd.ntmps22
  go_wp2_with fail
  go_loop [8] (fun i => ∃ k : Nat, k ≤ xs.length ∧ i = .int .i64 k ∧ ∀ j, j < k → badAt xs j = false) (fun i => xs.length - (intOf i).toNat)
  case atStart => exact ⟨0, Nat.zero_le _, rfl, fun j hj => by omega⟩
  case round =>
    obtain ⟨k, hk, rfl, hall⟩ := hrel
    by_cases hlt : k < xs.length
    · obtain ⟨b, o, rfl, hb, hc⟩ := h (List.ne_nil_of_length_pos (by omega))
      have c0 := hc k hlt
      by_cases hk0 : k = 0
      · subst hk0
        simp only [Nat.add_zero] at c0
        clear hc
        cases hxb : (nth xs 0 != 0) with
        | false =>
          have HB := Lib.hid (show badAt xs 0 = false by simp only [badAt, if_true, hxb])
          go_wp2_with fail
          go_round
          case rel => exact ⟨1, by omega, by go_num, fun j hj => by
            have : j = 0 := by omega
            subst this; exact HB.out⟩
          case measure => simp [intOf]; omega
        | true =>
          have hp := Lib.hid (pathF_at hlt (show badAt xs 0 = true by simp only [badAt, if_true, hxb]) (fun j hj => absurd hj (by omega)))
          clear hall
          go_wp2_with fail
          go_ret2
          rw [hp.out]
          exact ⟨rfl, rfl⟩
      · have c1 := hc (k - 1) (by omega)
        have hk1 : 1 ≤ k := by omega
        have hkb : ((k : Int) == 0) = false := by simp; omega
        have hkb2 : ((k : Int) != 0) = true := by simp; omega
        clear hc
        have hbd : badAt xs k = !(wayB (nth xs (k - 1)) (nth xs k)) := by unfold badAt; rw [if_neg (by omega)]
        clear hk0
        have hWt : wayB (nth xs (k - 1)) (nth xs k) = true ∨ wayB (nth xs (k - 1)) (nth xs k) = false := by cases wayB (nth xs (k - 1)) (nth xs k) <;> simp
        rcases hWt with hw | hw
        · have HB := Lib.hid (show badAt xs k = false by rw [hbd, hw]; rfl)
          have HA := Lib.hid hall
          have HW := Lib.hid hw
          clear hbd hw hall
          go_wp2_with fail
          refine (Way_any _ _ _ HT.out).mono ?_; rintro e w' ⟨rfl, rfl⟩
          rw [HW.out]
          go_wp2_with fail
          go_round
          case rel => exact ⟨k + 1, by omega, by go_num, fun j hj => by
            rcases Nat.lt_succ_iff_lt_or_eq.1 hj with h1 | h1
            · exact HA.out j h1
            · rw [h1]; exact HB.out⟩
          case measure => simp [intOf]; omega
        · have hp := Lib.hid (pathF_at hlt (show badAt xs k = true by rw [hbd, hw]; rfl) hall)
          have HW := Lib.hid hw
          clear hbd hw hall
          go_wp2_with fail
          refine (Way_any _ _ _ HT.out).mono ?_; rintro e w' ⟨rfl, rfl⟩
          rw [HW.out]
          go_wp2_with fail
          go_ret2
          rw [hp.out]
          exact ⟨rfl, rfl⟩
    · have hp := Lib.hid (pathF_none (l := xs) (fun j hj => hall j (by omega)))
      clear hall
      go_wp2_with fail
      go_ret2
      rw [hp.out]
      exact ⟨rfl, rfl⟩

end Go.Proofs.YtjnhmoafljfnkaaDoor.Modes
