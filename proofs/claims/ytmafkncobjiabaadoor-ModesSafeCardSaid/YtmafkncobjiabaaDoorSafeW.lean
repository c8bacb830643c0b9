/-
  ModesSafe: the law's walk. Condition: the table of ways lies in block 0. By an AI agent.
-/
import Derived.Test.YtmafkncobjiabaaDoorModesF
namespace Go.Proofs.YtmafkncobjiabaaDoor.Modes
set_option linter.unusedVariables false
set_option linter.unusedSimpArgs false
open Go Go.RowKit Go.Proofs.YtmafkncobjiabaaDoor.Base Go.Deep

/-- what the law asks of each way -/
theorem way_facts_fin : ∀ i j : Fin 8, wayB i.val j.val = true → (needZ i.val j.val < 0) = False ∧ needZ i.val j.val ≤ 63 ∧ (notZ i.val j.val < 0) = False ∧ notZ i.val j.val ≤ 63 ∧ bits .and .i64 (needZ i.val j.val) (notZ i.val j.val) = 0 ∧ i.val ≠ j.val ∧
    ((i.val = 0 ∨ j.val = 0) → notZ i.val j.val = 16) := by decide +kernel
theorem safe_facts_fin : ∀ i : Fin 8, i.val ≠ 0 → i.val ≠ 7 → wayB i.val 7 = true ∧ needZ i.val 7 = 0 ∧ notZ i.val 7 = 0 := by decide +kernel
theorem wayB_range {a b : Int} (h : wayB a b = true) : 0 ≤ a ∧ a < 8 ∧ 0 ≤ b ∧ b < 8 := by
  by_cases hr : 0 ≤ a ∧ a < 8 ∧ 0 ≤ b ∧ b < 8
  · exact hr
  · rw [wayB, wayZ_out hr] at h; simp at h
theorem way_facts {a b : Int} (h : wayB a b = true) : 0 ≤ needZ a b ∧ needZ a b ≤ 63 ∧ 0 ≤ notZ a b ∧ notZ a b ≤ 63 ∧ bits .and .i64 (needZ a b) (notZ a b) = 0 ∧ a ≠ b ∧ ((a = 0 ∨ b = 0) → notZ a b = 16) := by
  obtain ⟨a0, a1, b0, b1⟩ := wayB_range h
  obtain ⟨i, rfl⟩ := Int.eq_ofNat_of_zero_le a0
  obtain ⟨j, rfl⟩ := Int.eq_ofNat_of_zero_le b0
  have hf := way_facts_fin ⟨i, by omega⟩ ⟨j, by omega⟩
  simp only at hf
  obtain ⟨h1, h2, h3, h4, h5, h6, h7⟩ := hf h
  simp only [eq_iff_iff, iff_false] at h1 h3
  refine ⟨by omega, h2, by omega, h4, h5, by omega, fun hh => h7 (by omega)⟩
theorem safe_facts {a : Int} (a0 : 0 ≤ a) (a1 : a < 8) (h0 : a ≠ 0) (h7 : a ≠ 7) : wayB a 7 = true ∧ needZ a 7 = 0 ∧ notZ a 7 = 0 := by
  obtain ⟨i, rfl⟩ := Int.eq_ofNat_of_zero_le a0
  exact safe_facts_fin ⟨i, by omega⟩ (by simp only; omega) (by simp only; omega)

set_option maxRecDepth 100000 in
set_option maxHeartbeats 4000000 in
theorem ModesSafe_walk (v : Value) (xs : List Int) (v' : Value) (fl : List Int) (w : World) (h : Ints w .i64 v xs) (hx : ∀ n ∈ xs, (Lit.int .i64 n).wf = true) (h' : Ints w .i64 v' fl) (hx' : ∀ n ∈ fl, (Lit.int .i64 n).wf = true) (ht : Tab w) :
    Calls Tryd.prog 7 #[v, v'] w fun e w' => e = .returned (.bool true) ∧ Below w.heap.size w w' := by
  have HT := Lib.hid ht
  clear ht hx hx'
  have HI := Lib.hid h
  obtain ⟨A, c, rfl, hl, h⟩ := h.form
  obtain ⟨A', c', rfl, hl', h'⟩ := h'.form
  have HX := Lib.hid h
  have HX' := Lib.hid h'
  unfold maxLen at hl hl'
  clear h h'
  by_cases hlen : xs.length ≤ 100
  · go_enter Tryd.func7, Tryd.ntmps7
    go_wp2_with fail
    go_loopw [5] (fun i wr => ∃ k : Nat, k ≤ xs.length ∧ i = .int .i64 k ∧ (∀ j, j < k → badAt xs j = false) ∧ ∃ n, wr = w.drewN n) (fun i _ => xs.length - (intOf i).toNat)
    case atStart => exact ⟨0, Nat.zero_le _, rfl, fun j hj => by omega, 0, rfl⟩
    case round =>
      obtain ⟨k, hk, rfl, hall, n0, rfl⟩ := hrel
      have HA := Lib.hid hall
      clear hall
      by_cases hlt : k < xs.length
      · obtain ⟨b, o, rfl, hb, hc⟩ := HX.out (List.ne_nil_of_length_pos (by omega))
        have c0 := hc k hlt
        by_cases hk0 : k = 0
        · subst hk0
          simp only [Nat.add_zero] at c0
          clear hc
          cases hxb : (nth xs 0 != 0) with
          | true =>
            have hp := Lib.hid (pathF_at hlt (show badAt xs 0 = true by simp only [badAt, if_true, hxb]) (fun j hj => absurd hj (by omega)))
            go_wp2_with fail
            go_quiet (fail)
            go_wp2_with fail
            refine (Path_any _ xs _ (HT.out.drewN _) (HI.out.drewN _)).mono ?_; rintro e w' ⟨rfl, rfl⟩
            rw [hp.out]
            go_wp2_with fail
            refine (awake_any _ (HT.out.drewN _)).mono ?_; rintro e w2 ⟨rfl, hb2⟩
            go_wp2_with fail
            go_ret
            exact ⟨rfl, bl (below_drewN (Below.refl _ _) _) hb2⟩
          | false =>
            have HB := Lib.hid (show badAt xs 0 = false by simp only [badAt, if_true, hxb])
            have hl0 : ¬ nth xs 0 < 0 := by have : nth xs 0 = 0 := by simpa using hxb
                                            omega
            have hg7 : ¬ nth xs 0 > 7 := by have : nth xs 0 = 0 := by simpa using hxb
                                            omega
            go_wp2_with fail
            go_quiet (fail)
            go_wp2_with fail
            refine (Guard_any _ _ _ (HT.out.drewN _)).mono ?_; rintro e w' ⟨rfl, rfl⟩
            go_wp2_with fail
            go_roundw
            case rel => exact ⟨1, by omega, by go_num, fun j hj => by
              have : j = 0 := by omega
              subst this; exact HB.out, _, rfl⟩
            case measure => simp [intOf]; omega
        · have c1 := hc (k - 1) (by omega)
          have hk1 : 1 ≤ k := by omega
          have hkb : ((k : Int) == 0) = false := by simp; omega
          have hkb2 : ((k : Int) != 0) = true := by simp; omega
          have hd1 : decide ((k : Int) > 0) = true := by simp; omega
          have hd2 : decide (0 < k) = true := by simp; omega
          have hd3 : decide ((0 : Int) < (k : Int)) = true := by simp; omega
          have e1 : IntKind.i64.wrap ((k : Int) - 1) = (k : Int) - 1 := IntWalk.i64_in _ (by omega)
          have e2 : ((k : Int) - 1).toNat = k - 1 := by omega
          have e3 : (1 : Int) ≤ (k : Int) := by omega
          have e4 : (k : Int) - 1 < (xs.length : Int) := by omega
          have e5 : (k : Int) ≤ (xs.length : Int) := by omega
          have hbd : badAt xs k = !(wayB (nth xs (k - 1)) (nth xs k)) := by unfold badAt; rw [if_neg (by omega)]
          clear hc hk0
          have hWt : wayB (nth xs (k - 1)) (nth xs k) = true ∨ wayB (nth xs (k - 1)) (nth xs k) = false := by cases wayB (nth xs (k - 1)) (nth xs k) <;> simp
          rcases hWt with hw | hw
          · have HB := Lib.hid (show badAt xs k = false by rw [hbd, hw]; rfl)
            have HW := Lib.hid hw
            obtain ⟨y0, y1, x0, x1⟩ := wayB_range hw
            obtain ⟨n1, n2, m1, m2, nm, hne, h16⟩ := way_facts hw
            have HSF := Lib.hid (safe_facts x0 x1)
            clear hw hbd
            have HR := Lib.hid (And.intro h16 (And.intro x0 x1))
            have hxy : (nth xs k == nth xs (k - 1)) = false := by simp; omega
            have g1 : decide (needZ (nth xs (k - 1)) (nth xs k) < 0) = false := by simp; omega
            have g2 : decide (63 < needZ (nth xs (k - 1)) (nth xs k)) = false := by simp; omega
            have g3 : decide (notZ (nth xs (k - 1)) (nth xs k) < 0) = false := by simp; omega
            have g4 : decide (63 < notZ (nth xs (k - 1)) (nth xs k)) = false := by simp; omega
            have g5 : (bits .and .i64 (needZ (nth xs (k - 1)) (nth xs k)) (notZ (nth xs (k - 1)) (nth xs k)) != 0) = false := by rw [nm]; rfl
            clear nm h16 hne
            generalize nth xs k = x at *
            generalize nth xs (k - 1) = y at *
            have hcases : (x != 0) = false ∨ ((x != 0) = true ∧ (x != 7) = false) ∨ ((x != 0) = true ∧ (x != 7) = true ∧ wayB x 7 = true ∧ (needZ x 7 != 0) = false ∧ (notZ x 7 != 0) = false) := by
              by_cases hx0 : x = 0
              · left; simp [hx0]
              · by_cases hx7 : x = 7
                · right; left; simp [hx7]
                · right; right
                  obtain ⟨s1, s2, s3⟩ := HSF.out hx0 hx7
                  rw [s2, s3]
                  exact ⟨by simpa using hx0, by simpa using hx7, s1, rfl, rfl⟩
            rcases hcases with q1 | ⟨q1, q2⟩ | ⟨q1, q2, q3, q4, q5⟩
            all_goals
              go_wp2_with fail
              go_quiet ((go_at_call 11; exact quiet_add_left (HW.out ▸ Way_any _ _ _ (HT.out.drewN _))))
              go_wp2_with (first | (go_at_call 10; refine (Guard_any _ _ _ (HT.out.drewN _)).mono ?_; rintro e w' ⟨rfl, rfl⟩) | (go_at_call 11; refine (Way_any _ _ _ (HT.out.drewN _)).mono ?_; rintro e w' ⟨rfl, rfl⟩))
              go_quiet ((go_at_call 10; exact quiet_add_left (Guard_any _ _ _ (HT.out.drewN _))))
              go_wp2_with fail
              go_quiet (fail)
              by_cases hfl : k < fl.length
              · obtain ⟨b', o', rfl, hb', hc'⟩ := HX'.out (List.ne_nil_of_length_pos (by omega))
                have cf := hc' k hfl
                have hk3 : decide (fl.length ≤ k) = false := by simp; omega
                have hk4 : decide ((fl.length : Int) ≤ (k : Int)) = false := by simp; omega
                clear hc'
                cases f1 : (bits .and .i64 (nth fl k) (needZ y x) != needZ y x) with
                | true =>
                  go_wp2_with fail
                  refine (awake_any _ (HT.out.drewN _)).mono ?_; rintro e w2 ⟨rfl, hb2⟩
                  go_wp2_with fail
                  go_ret
                  exact ⟨rfl, bl (below_drewN (Below.refl _ _) _) hb2⟩
                | false =>
                  cases f2 : (bits .and .i64 (nth fl k) (notZ y x) != 0) with
                  | true =>
                    go_wp2_with fail
                    refine (awake_any _ (HT.out.drewN _)).mono ?_; rintro e w2 ⟨rfl, hb2⟩
                    go_wp2_with fail
                    go_ret
                    exact ⟨rfl, bl (below_drewN (Below.refl _ _) _) hb2⟩
                  | false =>
                    by_cases hup : x = 0 ∨ y = 0
                    · have f3 : (bits .and .i64 (nth fl k) 16 != 0) = false := by rw [← HR.out.1 (by omega)]; exact f2
                      clear hup
                      go_wp2_with fail
                      go_roundw
                      case rel => exact ⟨k + 1, by omega, by go_num, fun j hj => by
                        rcases Nat.lt_succ_iff_lt_or_eq.1 hj with h1 | h1
                        · exact HA.out j h1
                        · rw [h1]; exact HB.out, _, rfl⟩
                      case measure => simp [intOf]; omega
                    · have f4 : (x == 0) = false := by simp; omega
                      have f5 : (y == 0) = false := by simp; omega
                      clear hup
                      cases f3 : (bits .and .i64 (nth fl k) 16 != 0) with
                      | true =>
                        go_wp2_with fail
                        go_roundw
                        case rel => exact ⟨k + 1, by omega, by go_num, fun j hj => by
                          rcases Nat.lt_succ_iff_lt_or_eq.1 hj with h1 | h1
                          · exact HA.out j h1
                          · rw [h1]; exact HB.out, _, rfl⟩
                        case measure => simp [intOf]; omega
                      | false =>
                        go_wp2_with fail
                        go_roundw
                        case rel => exact ⟨k + 1, by omega, by go_num, fun j hj => by
                          rcases Nat.lt_succ_iff_lt_or_eq.1 hj with h1 | h1
                          · exact HA.out j h1
                          · rw [h1]; exact HB.out, _, rfl⟩
                        case measure => simp [intOf]; omega
              · have hk3 : decide (fl.length ≤ k) = true := by simp; omega
                have hk4 : decide ((fl.length : Int) ≤ (k : Int)) = true := by simp; omega
                go_wp2_with fail
                refine (awake_any _ (HT.out.drewN _)).mono ?_; rintro e w2 ⟨rfl, hb2⟩
                go_wp2_with fail
                go_ret
                exact ⟨rfl, bl (below_drewN (Below.refl _ _) _) hb2⟩
          · have hp := Lib.hid (pathF_at hlt (show badAt xs k = true by rw [hbd, hw]; rfl) HA.out)
            have HW := Lib.hid hw
            clear hbd hw
            go_wp2_with fail
            go_quiet ((go_at_call 11; exact quiet_add_left (HW.out ▸ Way_any _ _ _ (HT.out.drewN _))))
            go_wp2_with fail
            refine (Path_any _ xs _ (HT.out.drewN _) (HI.out.drewN _)).mono ?_; rintro e w' ⟨rfl, rfl⟩
            rw [hp.out]
            go_wp2_with fail
            refine (awake_any _ (HT.out.drewN _)).mono ?_; rintro e w2 ⟨rfl, hb2⟩
            go_wp2_with fail
            go_ret
            exact ⟨rfl, bl (below_drewN (Below.refl _ _) _) hb2⟩
      · have hp := Lib.hid (pathF_none (l := xs) (fun j hj => HA.out j (by omega)))
        go_wp2_with fail
        refine (Path_any _ xs _ (HT.out.drewN _) (HI.out.drewN _)).mono ?_; rintro e w' ⟨rfl, rfl⟩
        rw [hp.out]
        go_wp2_with fail
        refine (awake_any _ (HT.out.drewN _)).mono ?_; rintro e w2 ⟨rfl, hb2⟩
        go_wp2_with fail
        go_ret
        exact ⟨rfl, bl (below_drewN (Below.refl _ _) _) hb2⟩
  · go_enter Tryd.func7, Tryd.ntmps7
    go_wp2_with fail
    refine (awake_any _ HT.out).mono ?_; rintro e w2 ⟨rfl, hb2⟩
    go_wp2_with fail
    go_ret
    exact ⟨rfl, hb2⟩
end Go.Proofs.YtmafkncobjiabaaDoor.Modes
