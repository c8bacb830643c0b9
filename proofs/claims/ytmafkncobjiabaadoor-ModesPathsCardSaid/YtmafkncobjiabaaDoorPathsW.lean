/-
  ModesPaths: the reference's Path, and the law's walk. Condition: the table of ways lies in block 0. By an AI agent.
-/
import Derived.Test.YtmafkncobjiabaaDoorModesF
import Derived.Deep.RegionHeld3
namespace Go.Proofs.YtmafkncobjiabaaDoor.Modes
set_option linter.unusedVariables false
set_option linter.unusedSimpArgs false
open Go Go.RowKit Go.Proofs.YtmafkncobjiabaaDoor.Base Go.Deep

theorem findV_form (a b : Int) : ∃ x y n m : Int, findV a b = .tuple #[.agg #[.int .i64 x, .int .i64 y, .int .i64 n, .int .i64 m], .bool (wayB a b)] := by
  obtain ⟨f1, _, _⟩ := find_way a b
  unfold findV
  cases hf : findF a b with
  | none => exact ⟨0, 0, 0, 0, by rw [f1, hf]; rfl⟩
  | some k => exact ⟨_, _, _, _, by rw [f1, hf]; rfl⟩

set_option maxHeartbeats 1000000 in
theorem refPath_any (v : Value) (xs : List Int) (w : World) (h : Ints w .i64 v xs) :
    Calls Tryd.prog 14 #[v] w fun e w' => e = .returned (.tuple #[.int .i64 (pathF xs).1, .bool (pathF xs).2]) ∧ Below w.heap.size w w' := by
  obtain ⟨A, c, rfl, hl, h⟩ := h.form
  unfold maxLen at hl
  go_enter Tryd.func14, Tryd.ntmps14
  go_wp2_with fail
  go_loopw [4] (fun i wr => ∃ k : Nat, k ≤ xs.length ∧ i = .int .i64 k ∧ (∀ j, j < k → badAt xs j = false) ∧ Below w.heap.size w wr) (fun i _ => xs.length - (intOf i).toNat)
  case atStart => exact ⟨0, Nat.zero_le _, rfl, fun j hj => by omega, Below.refl _ _⟩
  case round =>
    obtain ⟨k, hk, rfl, hall, hb⟩ := hrel
    by_cases hlt : k < xs.length
    · obtain ⟨b, o, rfl, hbl, hc⟩ := h (List.ne_nil_of_length_pos (by omega))
      have c0 := (hb.cell (p := ⟨b, o + k, none⟩) hbl).trans (hc k hlt)
      by_cases hk0 : k = 0
      · subst hk0
        simp only [Nat.add_zero] at c0
        clear hc
        cases hxb : (nth xs 0 == 0) with
        | true =>
          have HB := Lib.hid (show badAt xs 0 = false by simp only [badAt, if_true, bne, hxb]; rfl)
          go_wp2_with fail
          go_roundw
          case rel => exact ⟨1, by omega, by go_num, fun j hj => by
            have : j = 0 := by omega
            subst this; exact HB.out, hb⟩
          case measure => simp [intOf]; omega
        | false =>
          have hp := Lib.hid (pathF_at hlt (show badAt xs 0 = true by simp only [badAt, if_true, bne, hxb]; rfl) (fun j hj => absurd hj (by omega)))
          clear hall
          go_wp2_with fail
          go_ret2
          rw [hp.out]
          exact ⟨rfl, hb⟩
      · have c1 := (hb.cell (p := ⟨b, o + (k - 1), none⟩) hbl).trans (hc (k - 1) (by omega))
        have hk1 : 1 ≤ k := by omega
        have hkb : ((k : Int) == 0) = false := by simp; omega
        have hkb2 : ((k : Int) != 0) = true := by simp; omega
        have hg : decide ((k : Int) > 0) = true := by simp; omega
        have e1 : IntKind.i64.wrap ((k : Int) - 1) = (k : Int) - 1 := IntWalk.i64_in _ (by omega)
        have e2 : ((k : Int) - 1).toNat = k - 1 := by omega
        have e3 : (0 : Int) ≤ (k : Int) - 1 := by omega
        clear hc
        have hbd : badAt xs k = !(wayB (nth xs (k - 1)) (nth xs k)) := by unfold badAt; rw [if_neg (by omega)]
        clear hk0
        obtain ⟨x, y, n, m, hfv⟩ := findV_form (nth xs (k - 1)) (nth xs k)
        have HV := Lib.hid hfv
        have hWt : wayB (nth xs (k - 1)) (nth xs k) = true ∨ wayB (nth xs (k - 1)) (nth xs k) = false := by cases wayB (nth xs (k - 1)) (nth xs k) <;> simp
        have HA := Lib.hid hall
        have HBd := Lib.hid hbd
        clear hfv hall hbd
        obtain ⟨wo, rfl⟩ : ∃ wo : World, wo = wr := ⟨_, rfl⟩
        have hbo : b < wo.heap.size := by have := hb.size; omega
        have i0 : (0 : Int) ≤ (k : Int) := by omega
        have i1 : (k : Int) < (xs.length : Int) := by omega
        have i2 : (k : Int) - 1 < (xs.length : Int) := by omega
        have i3 : (1 : Int) ≤ (k : Int) := by omega
        have i4 : (k : Int) ≤ (xs.length : Int) := by omega
        have hbd : Below w.heap.size w wo.drew := hb.drew
        clear hb
        go_wp2_with fail
        go_region_held3 (fun w' => w'.cell? ⟨b, o + (k - 1), none⟩ = some (.int .i64 (nth xs (k - 1))) ∧ w'.cell? ⟨b, o + k, none⟩ = some (.int .i64 (nth xs k)) ∧ b < w'.heap.size ∧ Below w.heap.size w w') (go_keep)
          (first | (go_at_call 9; refine (Find_any _ _ _).mono ?_; rintro e w2 ⟨rfl, hb2⟩; rw [HV.out]; obtain ⟨hc2, hf2⟩ := bcell hb2; have hs2 : b < w2.heap.size := Nat.lt_of_lt_of_le (by assumption) hb2.size; have hb3 : Below w.heap.size w w2 := bl (by assumption) hb2; have q1 : w2.cell? ⟨b, o + (k - 1), none⟩ = some (.int .i64 (nth xs (k - 1))) := (hc2 b _ (by assumption)).trans (by assumption); have q2 : w2.cell? ⟨b, o + k, none⟩ = some (.int .i64 (nth xs k)) := (hc2 b _ (by assumption)).trans (by assumption)))
        clear hc2 hf2 q1 q2 hb2 hbd
        have HB3 := Lib.hid hb3
        clear hb3
        rcases hWt with hw | hw
        · have hp := Lib.hid (show badAt xs k = false by rw [HBd.out, hw]; rfl)
          rw [hw]
          clear hw
          go_wp2_with fail
          go_roundw
          case rel => exact ⟨k + 1, by omega, by go_num, fun j hj => by
            rcases Nat.lt_succ_iff_lt_or_eq.1 hj with h1 | h1
            · exact HA.out j h1
            · rw [h1]; exact hp.out, HB3.out⟩
          case measure => simp [intOf]; omega
        · have hp := Lib.hid (pathF_at hlt (show badAt xs k = true by rw [HBd.out, hw]; rfl) HA.out)
          rw [hw]
          clear hw
          go_wp2_with fail
          go_ret2
          rw [hp.out]
          exact ⟨rfl, HB3.out⟩
    · have hp := Lib.hid (pathF_none (l := xs) (fun j hj => hall j (by omega)))
      clear hall
      go_wp2_with fail
      go_ret2
      rw [hp.out]
      exact ⟨rfl, hb⟩

set_option maxHeartbeats 1000000 in
theorem ModesPaths_walk (v : Value) (xs : List Int) (w : World) (h : Ints w .i64 v xs) (hx : ∀ n ∈ xs, (Lit.int .i64 n).wf = true) (ht : Tab w) :
    Calls Tryd.prog 4 #[v] w fun e w' => e = .returned (.bool true) ∧ Below w.heap.size w w' := by
  have HT := Lib.hid ht
  clear ht
  have HI := Lib.hid h
  obtain ⟨A, c, rfl, hl, h⟩ := h.form
  unfold maxLen at hl
  clear h hx
  by_cases hlen : xs.length ≤ 100
  · go_enter Tryd.func4, Tryd.ntmps4
    go_wp2_with fail
    refine (Path_any _ xs _ HT.out HI.out).mono ?_; rintro e w' ⟨rfl, rfl⟩
    go_wp2_with fail
    refine (refPath_any _ xs _ HI.out).mono ?_; rintro e w1 ⟨rfl, hb⟩
    have h1 : ((pathF xs).1 == (pathF xs).1) = true := by simp
    have h2 : ((pathF xs).2 == (pathF xs).2) = true := by simp
    generalize (pathF xs).1 = x at *
    generalize (pathF xs).2 = y at *
    have HB := Lib.hid hb
    clear hb
    go_wp2_with fail
    refine (awake_any _ (HT.out.below HB.out)).mono ?_; rintro e w2 ⟨rfl, hb2⟩
    go_wp2_with fail
    go_ret
    exact ⟨rfl, bl HB.out hb2⟩
  · go_enter Tryd.func4, Tryd.ntmps4
    go_wp2_with fail
    refine (awake_any _ HT.out).mono ?_; rintro e w2 ⟨rfl, hb2⟩
    go_wp2_with fail
    go_ret
    exact ⟨rfl, hb2⟩
end Go.Proofs.YtmafkncobjiabaaDoor.Modes
