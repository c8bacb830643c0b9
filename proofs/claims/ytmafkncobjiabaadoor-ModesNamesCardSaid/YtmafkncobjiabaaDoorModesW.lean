/-
  Modes: the walks through package modes. Condition: the table of ways lies in block 0. By an AI agent.
-/
import Derived.Test.YtmafkncobjiabaaDoorProg
import Derived.Test.YtmafkncobjiabaaDoorModes
import Derived.WalkKit
import Derived.Lib.Hide
import Derived.Deep.QuietTactic
import Derived.BigQuiet
import Derived.Laws.BitsAllLaws
import Derived.Laws.BitsLemmas
namespace Go.Proofs.YtmafkncobjiabaaDoor.Modes
set_option linter.unusedVariables false
set_option linter.unusedSimpArgs false
open Go Go.RowKit Go.Proofs.YtmafkncobjiabaaDoor.Base

theorem mode_in (n : Int) (w : World) (h0 : 0 ≤ n) (h1 : n < 8) :
    Calls Tryd.prog 24 #[.int .i64 n] w fun e w' => e = .returned (.bool true) ∧ w = w' := by
  go_enter Tryd.func24, Tryd.ntmps24
  go_wp2
  go_ret
  exact ⟨rfl, rfl⟩
theorem mode_out (n : Int) (w : World) (h : ¬ (0 ≤ n ∧ n < 8)) :
    Calls Tryd.prog 24 #[.int .i64 n] w fun e w' => e = .returned (.bool false) ∧ w = w' := by
  by_cases h0 : 0 ≤ n
  · have h1 : ¬ n < 8 := by omega
    clear h
    go_enter Tryd.func24, Tryd.ntmps24
    go_wp2
    go_ret
    exact ⟨rfl, rfl⟩
  · clear h
    go_enter Tryd.func24, Tryd.ntmps24
    go_wp2
    go_ret
    exact ⟨rfl, rfl⟩

theorem way_any (a b : Int) (w : World) (ht : Tab w) :
    Calls Tryd.prog 23 #[.int .i64 a, .int .i64 b] w fun e w' => e = .returned (.int .i64 (wayZ a b)) ∧ w = w' := by
  by_cases ha : 0 ≤ a ∧ a < 8
  · obtain ⟨a0, a1⟩ := ha
    by_cases hb : 0 ≤ b ∧ b < 8
    · obtain ⟨b0, b1⟩ := hb
      have hc := ht (a.toNat * 8 + b.toNat) (by omega)
      rw [← wayZ_in ⟨a0, a1, b0, b1⟩] at hc
      clear ht
      go_enter Tryd.func23, Tryd.ntmps23
      go_wp2_with (go_at_call 24; refine (mode_in _ _ (by omega) (by omega)).mono ?_; rintro e w' ⟨rfl, rfl⟩)
      go_ret
      exact ⟨rfl, rfl⟩
    · have hz : wayZ a b = 0 := wayZ_out (by omega)
      rw [hz]
      clear hz ht
      go_enter Tryd.func23, Tryd.ntmps23
      go_wp2_with fail
      refine (mode_in _ _ (by omega) (by omega)).mono ?_; rintro e w' ⟨rfl, rfl⟩
      go_wp2_with fail
      refine (mode_out _ _ (by omega)).mono ?_; rintro e w' ⟨rfl, rfl⟩
      go_wp2_with fail
      go_ret
      exact ⟨rfl, rfl⟩
  · have hz : wayZ a b = 0 := wayZ_out (by omega)
    rw [hz]
    clear hz ht
    go_enter Tryd.func23, Tryd.ntmps23
    go_wp2_with fail
    refine (mode_out _ _ (by omega)).mono ?_; rintro e w' ⟨rfl, rfl⟩
    go_wp2_with fail
    go_ret
    exact ⟨rfl, rfl⟩

theorem Way_any (a b : Int) (w : World) (ht : Tab w) :
    Calls Tryd.prog 11 #[.int .i64 a, .int .i64 b] w fun e w' => e = .returned (.bool (wayB a b)) ∧ w = w' := by
  go_enter Tryd.func11, Tryd.ntmps11
  go_wp2_with (go_at_call 23; refine (way_any _ _ _ ht).mono ?_; rintro e w' ⟨rfl, rfl⟩)
  go_ret
  exact ⟨rfl, rfl⟩

theorem Guard_any (a b : Int) (w : World) (ht : Tab w) :
    Calls Tryd.prog 10 #[.int .i64 a, .int .i64 b] w fun e w' => e = .returned (.tuple #[.int .i64 (needZ a b), .int .i64 (notZ a b)]) ∧ w = w' := by
  go_enter Tryd.func10, Tryd.ntmps10
  go_wp2_with (go_at_call 23; refine (way_any _ _ _ ht).mono ?_; rintro e w' ⟨rfl, rfl⟩)
  go_ret2
  exact ⟨rfl, rfl⟩

theorem Path_any (v : Value) (xs : List Int) (w : World) (ht : Tab w) (h : Ints w .i64 v xs) :
    Calls Tryd.prog 13 #[v] w fun e w' => e = .returned (.tuple #[.int .i64 (pathF xs).1, .bool (pathF xs).2]) ∧ w = w' := by
  obtain ⟨A, c, rfl, hl, h⟩ := h.form
  have HT := Lib.hid ht
  clear ht
  unfold maxLen at hl
  go_enter Tryd.func13, Tryd.ntmps13
  go_wp2_with fail
  go_loop [8] (fun i => ∃ k : Nat, k ≤ xs.length ∧ i = .int .i64 k ∧ ∀ j, j < k → badAt xs j = false) (fun i => xs.length - (intOf i).toNat)
  case atStart => exact ⟨0, Nat.zero_le _, rfl, fun j hj => by omega⟩
  case round =>
    obtain ⟨k, hk, rfl, hall⟩ := hrel
    by_cases hlt : k < xs.length
    · obtain ⟨b, o, rfl, hb, hc⟩ := h (List.ne_nil_of_length_pos (by omega))
      have c0 := hc k hlt
      by_cases hk0 : k = 0
      · subst hk0
        simp only [Nat.add_zero] at c0
        clear hc
        cases hxb : (nth xs 0 != 0) with
        | false =>
          have HB := Lib.hid (show badAt xs 0 = false by simp only [badAt, if_true, hxb])
          go_wp2_with fail
          go_round
          case rel => exact ⟨1, by omega, by go_num, fun j hj => by
            have : j = 0 := by omega
            subst this; exact HB.out⟩
          case measure => simp [intOf]; omega
        | true =>
          have hp := Lib.hid (pathF_at hlt (show badAt xs 0 = true by simp only [badAt, if_true, hxb]) (fun j hj => absurd hj (by omega)))
          clear hall
          go_wp2_with fail
          go_ret2
          rw [hp.out]
          exact ⟨rfl, rfl⟩
      · have c1 := hc (k - 1) (by omega)
        have hk1 : 1 ≤ k := by omega
        have hkb : ((k : Int) == 0) = false := by simp; omega
        have hkb2 : ((k : Int) != 0) = true := by simp; omega
        clear hc
        have hbd : badAt xs k = !(wayB (nth xs (k - 1)) (nth xs k)) := by unfold badAt; rw [if_neg (by omega)]
        clear hk0
        have hWt : wayB (nth xs (k - 1)) (nth xs k) = true ∨ wayB (nth xs (k - 1)) (nth xs k) = false := by cases wayB (nth xs (k - 1)) (nth xs k) <;> simp
        rcases hWt with hw | hw
        · have HB := Lib.hid (show badAt xs k = false by rw [hbd, hw]; rfl)
          have HA := Lib.hid hall
          have HW := Lib.hid hw
          clear hbd hw hall
          go_wp2_with fail
          refine (Way_any _ _ _ HT.out).mono ?_; rintro e w' ⟨rfl, rfl⟩
          rw [HW.out]
          go_wp2_with fail
          go_round
          case rel => exact ⟨k + 1, by omega, by go_num, fun j hj => by
            rcases Nat.lt_succ_iff_lt_or_eq.1 hj with h1 | h1
            · exact HA.out j h1
            · rw [h1]; exact HB.out⟩
          case measure => simp [intOf]; omega
        · have hp := Lib.hid (pathF_at hlt (show badAt xs k = true by rw [hbd, hw]; rfl) hall)
          have HW := Lib.hid hw
          clear hbd hw hall
          go_wp2_with fail
          refine (Way_any _ _ _ HT.out).mono ?_; rintro e w' ⟨rfl, rfl⟩
          rw [HW.out]
          go_wp2_with fail
          go_ret2
          rw [hp.out]
          exact ⟨rfl, rfl⟩
    · have hp := Lib.hid (pathF_none (l := xs) (fun j hj => hall j (by omega)))
      clear hall
      go_wp2_with fail
      go_ret2
      rw [hp.out]
      exact ⟨rfl, rfl⟩

theorem same_any (v v' : Value) (xs ys : List Int) (w : World) (h : Ints w .i64 v xs) (h' : Ints w .i64 v' ys) :
    Calls Tryd.prog 16 #[v, v'] w fun e w' => e = .returned (.bool (sameF xs ys)) ∧ ∃ n, w' = w.drewN n := by
  obtain ⟨A, c, rfl, hl, h⟩ := h.form
  obtain ⟨A', c', rfl, hl', h'⟩ := h'.form
  unfold maxLen at hl hl'
  by_cases hn : xs.length = ys.length
  · have hnb : ((xs.length : Int) != (ys.length : Int)) = false := by simp [hn]
    have hle : ys.length ≤ xs.length := by omega
    have HN := Lib.hid hn
    clear hn
    go_enter Tryd.func16, Tryd.ntmps16
    go_wp2_with fail
    go_loopw [5] (fun i wr => ∃ k : Nat, k ≤ xs.length ∧ i = .int .i64 k ∧ (∀ j, j < k → nth xs j = nth ys j) ∧ ∃ n, wr = w.drewN n) (fun i _ => xs.length - (intOf i).toNat)
    case atStart => exact ⟨0, Nat.zero_le _, rfl, fun j hj => by omega, 0, rfl⟩
    case round =>
      obtain ⟨k, hk, rfl, hall, n, rfl⟩ := hrel
      have HA := Lib.hid hall
      clear hall
      by_cases hlt : k < xs.length
      · obtain ⟨b, o, rfl, hb, hc⟩ := h (List.ne_nil_of_length_pos (by omega))
        obtain ⟨b', o', rfl, hb', hc'⟩ := h' (List.ne_nil_of_length_pos (by have := HN.out; omega))
        have c0 := hc k hlt
        have c1 := hc' k (by have := HN.out; omega)
        have hlt' : k < ys.length := by have := HN.out; omega
        clear hc hc'
        cases hne : (nth xs k != nth ys k) with
        | false =>
          go_wp2_with fail
          go_quiet (fail)
          go_wp2_with fail
          go_roundw
          case rel => exact ⟨k + 1, by omega, by go_num, fun j hj => by
            rcases Nat.lt_succ_iff_lt_or_eq.1 hj with h1 | h1
            · exact HA.out j h1
            · rw [h1]; simpa using hne, _, rfl⟩
          case measure => simp [intOf]; omega
        | true =>
          have hs := Lib.hid (sameF_ne (xs := xs) (ys := ys) (k := k) hlt (by simpa using hne))
          go_wp2_with fail
          go_quiet (fail)
          go_wp2_with fail
          go_ret
          rw [hs.out]
          exact ⟨rfl, _, World.drewN_drewN _ _ _⟩
      · have hs := Lib.hid (sameF_eq HN.out (fun j hj => HA.out j (by omega)))
        go_wp2_with fail
        go_ret
        rw [hs.out]
        exact ⟨rfl, _, rfl⟩
  · have hnb : ((xs.length : Int) != (ys.length : Int)) = true := by simp; omega
    have hs := Lib.hid (sameF_len hn)
    clear hn
    go_enter Tryd.func16, Tryd.ntmps16
    go_wp2_with fail
    go_ret
    rw [hs.out]
    exact ⟨rfl, 0, rfl⟩
end Go.Proofs.YtmafkncobjiabaaDoor.Modes
