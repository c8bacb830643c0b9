/-
  ModesReach, ModesSteps: the reference's Reach, and the laws' walks. Condition: the table of ways lies in block 0. By an AI agent.
-/
import Derived.Test.YtmafkncobjiabaaDoorModesF
import Derived.Deep.RegionHeld3
namespace Go.Proofs.YtmafkncobjiabaaDoor.Modes
set_option linter.unusedVariables false
set_option linter.unusedSimpArgs false
open Go Go.RowKit Go.Proofs.YtmafkncobjiabaaDoor.Base Go.Deep

def refR : Nat → Int → Int → Bool
  | 0, a, b => a == b
  | n + 1, a, b => a == b || (List.range 24).any fun i => nth flat (i * 4) == a && refR n (nth flat (i * 4 + 1)) b
theorem refR_eq (n : Nat) (a : Int) : refR n a a = true := by cases n <;> simp [refR]
theorem refR_hit {n : Nat} {a b : Int} {k : Nat} (hk : k < 24) (h1 : (nth flat (k * 4) == a) = true) (h2 : refR n (nth flat (k * 4 + 1)) b = true) : refR (n + 1) a b = true := by
  simp only [refR, Bool.or_eq_true, List.any_eq_true, List.mem_range, Bool.and_eq_true]
  exact .inr ⟨k, hk, h1, h2⟩
theorem refR_miss {n : Nat} {a b : Int} (hab : (a == b) = false) (hall : ∀ j, j < 24 → (nth flat (j * 4) == a && refR n (nth flat (j * 4 + 1)) b) = false) : refR (n + 1) a b = false := by
  simp only [refR, hab, Bool.false_or, List.any_eq_false, List.mem_range, Bool.not_eq_true]
  exact hall

set_option maxHeartbeats 1000000 in
theorem refReach_any (n : Nat) : ∀ (a b m : Int) (w : World), m ≤ n → n ≤ m → n ≤ 100 →
    Calls Tryd.prog 17 #[.int .i64 a, .int .i64 b, .int .i64 m] w fun e w' => e = .returned (.bool (refR n a b)) ∧ Below w.heap.size w w' := by
  induction n with
  | zero =>
    intro a b m w h1 h2 h3
    cases hab : (a == b) with
    | true =>
      have hr := Lib.hid (show refR 0 a b = true from hab)
      go_enter Tryd.func17, Tryd.ntmps17
      go_wp2_with fail
      go_ret
      rw [hr.out]
      exact ⟨rfl, Below.refl _ _⟩
    | false =>
      have hr := Lib.hid (show refR 0 a b = false from hab)
      have hm : m < 1 := by omega
      go_enter Tryd.func17, Tryd.ntmps17
      go_wp2_with fail
      go_ret
      rw [hr.out]
      exact ⟨rfl, Below.refl _ _⟩
  | succ n ih =>
    intro a b m w h1 h2 h3
    have IH := Lib.hid ih
    clear ih
    cases hab : (a == b) with
    | true =>
      have hr := Lib.hid (show refR (n + 1) a b = true by rw [refR, hab]; rfl)
      go_enter Tryd.func17, Tryd.ntmps17
      go_wp2_with fail
      go_ret
      rw [hr.out]
      exact ⟨rfl, Below.refl _ _⟩
    | false =>
      have hm : ¬ m < 1 := by omega
      have hm1 : 1 ≤ m := by omega
      have hm2 : m ≤ 100 := by omega
      go_enter Tryd.func17, Tryd.ntmps17
      go_wp2_with fail
      refine (Rows_any _).mono ?_
      rintro e w' ⟨rfl, hw⟩
      have hF := Flat.new w
      have hB : Below w.heap.size w w' := by
        rw [hw]; exact (Below.refl _ _).alloc (Nat.le_refl _) _
      rw [← hw] at hF
      clear hw
      go_wp2_with fail
      go_loopw [8] (fun i wr => ∃ k : Nat, k ≤ 24 ∧ i = .int .i64 k ∧ (∀ j, j < k → (nth flat (j * 4) == a && refR n (nth flat (j * 4 + 1)) b) = false) ∧ Flat wr w.heap.size ∧ Below w.heap.size w wr) (fun i _ => 24 - (intOf i).toNat)
      case atStart => exact ⟨0, Nat.zero_le _, rfl, fun j hj => by omega, hF, hB⟩
      case round =>
        obtain ⟨k, hk, rfl, hall, hF', hB'⟩ := hrel
        have HA := Lib.hid hall
        have HF := Lib.hid hF'
        have HB' := Lib.hid hB'
        clear hall hF' hF hB'
        by_cases hlt : k < 24
        · have c0 := HF.out (k * 4) (by omega)
          have c1 := HF.out (k * 4 + 1) (by omega)
          cases h1 : (nth flat (k * 4) == a) with
          | false =>
            have hh := Lib.hid (show (nth flat (k * 4) == a && refR n (nth flat (k * 4 + 1)) b) = false by rw [h1]; rfl)
            go_wp2_with fail
            go_roundw
            case rel => exact ⟨k + 1, by omega, by go_num, fun j hj => by
              rcases Nat.lt_succ_iff_lt_or_eq.1 hj with h1 | h1
              · exact HA.out j h1
              · rw [h1]; exact hh.out, HF.out, HB'.out⟩
            case measure => simp [intOf]; omega
          | true =>
            have H1 := Lib.hid h1
            go_wp2_with fail
            refine (IH.out _ _ _ _ (by omega) (by omega) (by omega)).mono ?_; rintro e w2 ⟨rfl, hb2⟩
            have HB2 := Lib.hid (bl HB'.out hb2)
            have HF2 := Lib.hid (HF.out.below hb2)
            clear hb2
            have hWt : refR n (nth flat (k * 4 + 1)) b = true ∨ refR n (nth flat (k * 4 + 1)) b = false := by cases refR n (nth flat (k * 4 + 1)) b <;> simp
            rcases hWt with hr | hr
            · have hh := Lib.hid (refR_hit hlt h1 hr)
              rw [hr]
              clear hr
              go_wp2_with fail
              go_ret
              rw [hh.out]
              exact ⟨rfl, HB2.out⟩
            · have hh := Lib.hid (show (nth flat (k * 4) == a && refR n (nth flat (k * 4 + 1)) b) = false by rw [h1, hr]; rfl)
              rw [hr]
              clear hr
              go_wp2_with fail
              go_roundw
              case rel => exact ⟨k + 1, by omega, by go_num, fun j hj => by
                rcases Nat.lt_succ_iff_lt_or_eq.1 hj with h1 | h1
                · exact HA.out j h1
                · rw [h1]; exact hh.out, HF2.out, HB2.out⟩
              case measure => simp [intOf]; omega
        · have hh := Lib.hid (refR_miss (n := n) hab (fun j hj => HA.out j (by omega)))
          go_wp2_with fail
          go_ret
          rw [hh.out]
          exact ⟨rfl, HB'.out⟩
end Go.Proofs.YtmafkncobjiabaaDoor.Modes
