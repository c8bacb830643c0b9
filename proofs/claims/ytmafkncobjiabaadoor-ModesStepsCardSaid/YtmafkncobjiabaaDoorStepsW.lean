/-
  ModesSteps: the law's walk. Condition: the table of ways lies in block 0. By an AI agent.
-/
import Derived.Test.YtmafkncobjiabaaDoorReachP
namespace Go.Proofs.YtmafkncobjiabaaDoor.Modes
set_option linter.unusedVariables false
set_option linter.unusedSimpArgs false
open Go Go.RowKit Go.Proofs.YtmafkncobjiabaaDoor.Base Go.Deep

def hitTo (x j : Int) : Bool := x == j || wayB x j
def anyTo (xs : List Int) (k : Nat) (j : Int) : Bool := (List.range k).any fun i => hitTo (nth xs i) j
theorem anyTo_zero (xs : List Int) (j : Int) : anyTo xs 0 j = false := rfl
theorem anyTo_succ (xs : List Int) (k : Nat) (j : Int) : anyTo xs (k + 1) j = (anyTo xs k j || (nth xs k == j || wayB (nth xs k) j)) := by
  simp [anyTo, hitTo, List.range_succ]
set_option maxRecDepth 100000 in
theorem step_reach_fin : ∀ n : Fin 9, ∀ s j : Fin 8, anyTo (reachL s.val n.val) (reachL s.val n.val).length j.val = reachR s.val (min (n.val + 1) 8) j.val := by decide +kernel
theorem reachL_min (s n : Nat) : reachL (s : Int) (n : Int) = reachL (s : Int) ((min n 8 : Nat) : Int) := by
  unfold reachL
  simp only [Int.toNat_natCast]
  by_cases h : (s : Int) < 8
  · rw [if_pos ⟨by omega, h, by omega⟩, if_pos ⟨by omega, h, by omega⟩, show min (min n 8) 8 = min n 8 by omega]
  · rw [if_neg (by omega), if_neg (by omega)]
/-- what is come to by a way more -/
def nextR (s n : Nat) (j : Nat) : Bool := anyTo (reachL (s : Int) (n : Int)) (reachL (s : Int) (n : Int)).length (j : Int)
theorem step_reach (s n : Nat) (hs : s < 8) : reachL (s : Int) ((n : Int) + 1) = gath (nextR s n) 8 := by
  have e : ∀ j, j < 8 → nextR s n j = reachR s (min (n + 1) 8) j := by
    intro j hj
    unfold nextR
    rw [reachL_min s n]
    have := step_reach_fin ⟨min n 8, by omega⟩ ⟨s, hs⟩ ⟨j, hj⟩
    simp only at this
    rw [this, show min (min n 8 + 1) 8 = min (n + 1) 8 by omega]
  rw [gath_congr 8 e]
  unfold reachL
  rw [if_pos ⟨by omega, by omega, by omega⟩, Int.toNat_natCast, show ((n : Int) + 1).toNat = n + 1 by omega]
theorem gath_mono (f : Nat → Bool) {a b : Nat} (h : a ≤ b) : ∃ r, gath f b = gath f a ++ r := by
  induction b with
  | zero => exact ⟨[], by have : a = 0 := by omega
                          subst this; simp⟩
  | succ b ih =>
    by_cases hab : a ≤ b
    · obtain ⟨r, hr⟩ := ih hab
      cases hf : f b with
      | true => exact ⟨r ++ [(b : Int)], by rw [gath_succ_yes hf, hr, List.append_assoc]⟩
      | false => exact ⟨r, by rw [gath_succ_no hf, hr]⟩
    · have : a = b + 1 := by omega
      subst this
      exact ⟨[], by simp⟩
theorem gath_at {f : Nat → Bool} {q n : Nat} (hq : q < n) (h : f q = true) : (gath f q).length < (gath f n).length ∧ nth (gath f n) (gath f q).length = (q : Int) := by
  obtain ⟨r, hr⟩ := gath_mono f (show q + 1 ≤ n by omega)
  rw [gath_succ_yes h] at hr
  rw [hr]
  constructor
  · simp
  · unfold nth
    rw [List.getD_eq_getElem?_getD, List.append_assoc, List.getElem?_append_right (Nat.le_refl _)]
    simp

theorem next_self (s n : Nat) (hs : s < 8) : 0 < (gath (nextR s n) 8).length := by
  have h : ∀ s k : Fin 8, reachR s.val (k.val + 1) s.val = true := by decide +kernel
  rw [← step_reach s n hs]
  unfold reachL
  rw [if_pos ⟨by omega, by omega, by omega⟩, show ((n : Int) + 1).toNat = n + 1 by omega, Int.toNat_natCast]
  have h1 := h ⟨s, hs⟩ ⟨min (n + 1) 8 - 1, by omega⟩
  simp only at h1
  rw [show min (n + 1) 8 - 1 + 1 = min (n + 1) 8 by omega] at h1
  have := (gath_at hs h1).1
  omega
set_option maxHeartbeats 2000000 in
theorem ModesSteps_walk (s : Int) (bs : -9223372036854775808 ≤ s ∧ s ≤ 9223372036854775807) (n : Int) (bn : -9223372036854775808 ≤ n ∧ n ≤ 9223372036854775807) (w : World) (ht : Tab w) :
    Calls Tryd.prog 6 #[.int .i64 s, .int .i64 n] w fun e w' => e = .returned (.bool true) ∧ Below w.heap.size w w' := by
  have HT := Lib.hid ht
  clear ht
  obtain ⟨bs0, bs1⟩ := bs
  obtain ⟨bn0, bn1⟩ := bn
  by_cases hin : 0 ≤ s ∧ s ≤ 7 ∧ 0 ≤ n ∧ n < 2147483648
  · obtain ⟨s0, s1, n0, n1⟩ := hin
    obtain ⟨s, rfl⟩ := Int.eq_ofNat_of_zero_le s0
    obtain ⟨n, rfl⟩ := Int.eq_ofNat_of_zero_le n0
    have HS := Lib.hid (step_reach s n (by omega))
    have HN := Lib.hid (show ∀ j : Nat, nextR s n j = anyTo (reachL (s : Int) (n : Int)) (reachL (s : Int) (n : Int)).length (j : Int) from fun j => rfl)
    have hd1 : decide (7 < (s : Int)) = false := by simp; omega
    have hd2 : decide (7 < s) = false := by simp; omega
    have hd3 : decide ((s : Int) < 0) = false := by simp
    have hd4 : decide ((n : Int) < 0) = false := by simp
    have hd5 : decide (2147483648 ≤ (n : Int)) = false := by simp; omega
    have hd6 : decide (2147483648 ≤ n) = false := by simp; omega
    go_enter Tryd.func6, Tryd.ntmps6
    go_wp2_with fail
    refine (Reach_any _ _ _ HT.out bn1).mono ?_; rintro e w1 ⟨v1, rfl, hv1, hb1⟩
    generalize reachL (s : Int) (n : Int) = xs at *
    have HB1 := Lib.hid hb1
    have HV1 := Lib.hid hv1
    clear hv1 hb1
    go_wp2_with fail
    refine (Reach_any _ _ _ (HT.out.below HB1.out) (by omega)).mono ?_; rintro e w2 ⟨v2, rfl, hv2, hb2⟩
    rw [HS.out] at hv2
    have HB2 := Lib.hid hb2
    have HV2 := Lib.hid hv2
    have HV1' := Lib.hid (HV1.out.below hb2)
    have HT2 := Lib.hid ((HT.out.below HB1.out).below hb2)
    clear hv2 hb2
    obtain ⟨A1, c1, rfl, hl1, hx1⟩ := HV1'.out.form
    obtain ⟨A2, c2, rfl, hl2, hx2⟩ := HV2.out.form
    unfold maxLen at hl1 hl2
    have hlen := gath_len (nextR s n) 8
    obtain ⟨b2, o2, rfl, hb2, hc2⟩ := hx2 (List.ne_nil_of_length_pos (next_self s n (by omega)))
    have HC2 := Lib.hid hc2
    clear hx2 hc2
    clear bs0 bs1 bn0 bn1 n1 s0 n0
    go_wp2_with fail
    go_loop [7, 8] (fun a t => ∃ q : Nat, q ≤ 8 ∧ t = .int .i64 q ∧ a = .int .i64 (gath (nextR s n) q).length) (fun _ t => 8 - (intOf t).toNat)
    case atStart => exact ⟨0, by omega, rfl, rfl⟩
    case round =>
      obtain ⟨q, hq, rfl, rfl⟩ := hrel
      have hgl := gath_len (nextR s n) q
      by_cases hlq : q < 8
      · have hd8 : decide (q < 8) = true := by simp; omega
        have hd9 : decide ((q : Int) < 8) = true := by simp; omega
        go_wp2_with fail
        go_loop [9, 10] (fun p i => ∃ k : Nat, k ≤ xs.length ∧ i = .int .i64 k ∧ p = .bool (anyTo xs k q)) (fun _ i => xs.length - (intOf i).toNat)
        case atStart => exact ⟨0, by omega, rfl, rfl⟩
        case round =>
          obtain ⟨k, hk, rfl, rfl⟩ := hrel
          by_cases hlt : k < xs.length
          · obtain ⟨b, o, rfl, hb, hc⟩ := hx1 (List.ne_nil_of_length_pos (by omega))
            have c0 := hc k hlt
            have HK := Lib.hid (anyTo_succ xs k (q : Int))
            clear hc
            cases h1 : anyTo xs k (q : Int) with
            | true =>
              have hh := Lib.hid (show anyTo xs (k + 1) (q : Int) = true by rw [HK.out, h1]; rfl)
              clear h1
              go_wp2_with fail
              go_round
              case rel => exact ⟨k + 1, by omega, by go_num, by rw [hh.out]⟩
              case measure => simp [intOf]; omega
            | false =>
              cases h2 : (nth xs k == (q : Int)) with
              | true =>
                have hh := Lib.hid (show anyTo xs (k + 1) (q : Int) = true by rw [HK.out, h1, h2]; rfl)
                clear h1
                go_wp2_with fail
                go_round
                case rel => exact ⟨k + 1, by omega, by go_num, by rw [hh.out]⟩
                case measure => simp [intOf]; omega
              | false =>
                have hh := Lib.hid (show anyTo xs (k + 1) (q : Int) = wayB (nth xs k) (q : Int) by rw [HK.out, h1, h2]; rfl)
                clear h1
                go_wp2_with fail
                refine (Way_any _ _ _ HT2.out).mono ?_; rintro e w' ⟨rfl, rfl⟩
                go_wp2_with fail
                go_round
                case rel => exact ⟨k + 1, by omega, by go_num, by rw [hh.out]⟩
                case measure => simp [intOf]; omega
          · have hkl : k = xs.length := by omega
            have HQ := Lib.hid (show nextR s n q = anyTo xs k (q : Int) by rw [HN.out, hkl])
            clear hkl
            cases h1 : anyTo xs k (q : Int) with
            | true =>
              have hf : nextR s n q = true := by rw [HQ.out, h1]
              obtain ⟨hg1, hg2⟩ := gath_at hlq hf
              have HG := Lib.hid (gath_succ_yes hf)
              have c0 := HC2.out (gath (nextR s n) q).length hg1
              have hneq : (nth (gath (nextR s n) 8) (gath (nextR s n) q).length != (q : Int)) = false := by rw [hg2]; simp
              clear hg2 h1 hf
              have HG2 := Lib.hid (show (gath (nextR s n) (q + 1)).length = (gath (nextR s n) q).length + 1 by rw [HG.out]; simp)
              clear HG
              go_wp2_with fail
              go_round
              case rel => exact ⟨q + 1, by omega, by go_num, by rw [HG2.out]; simp⟩
              case measure => simp [intOf]; omega
            | false =>
              have HG := Lib.hid (gath_succ_no (show nextR s n q = false by rw [HQ.out, h1]))
              clear h1
              go_wp2_with fail
              go_round
              case rel => exact ⟨q + 1, by omega, by go_num, by rw [HG.out]⟩
              case measure => simp [intOf]; omega
      · have hq8 : q = 8 := by omega
        subst hq8
        have he : (((gath (nextR s n) 8).length : Int) == ((gath (nextR s n) 8).length : Int)) = true := by simp
        go_wp2_with fail
        refine (awake_any _ HT2.out).mono ?_; rintro e w4 ⟨rfl, hb4⟩
        go_wp2_with fail
        go_ret
        exact ⟨rfl, bl (bl HB1.out HB2.out) hb4⟩
  · by_cases h1 : s < 0
    all_goals by_cases h2 : 7 < s
    all_goals try omega
    all_goals by_cases h3 : n < 0
    all_goals by_cases h4 : 2147483648 ≤ n
    all_goals try omega
    all_goals
      clear hin
      go_enter Tryd.func6, Tryd.ntmps6
      go_wp2_with fail
      refine (awake_any _ HT.out).mono ?_; rintro e w4 ⟨rfl, hb4⟩
      go_wp2_with fail
      go_ret
      exact ⟨rfl, hb4⟩
end Go.Proofs.YtmafkncobjiabaaDoor.Modes
