/-
  Modes: the reference's Reach and the code's are the same. No condition. By an AI agent.
-/
import Derived.Test.YtmafkncobjiabaaDoorReachW
namespace Go.Proofs.YtmafkncobjiabaaDoor.Modes
set_option linter.unusedVariables false
set_option linter.unusedSimpArgs false
open Go Go.RowKit Go.Proofs.YtmafkncobjiabaaDoor.Base Go.Deep
set_option maxRecDepth 100000 in
theorem ref_reach : ∀ n : Fin 6, ∀ s j : Fin 8, refR n.val s.val j.val = reachR s.val n.val j.val := by decide +kernel
set_option maxRecDepth 100000 in
theorem reach_full : ∀ s k : Fin 8, reachL s.val (k.val + 5 : Nat) = [0, 1, 2, 3, 4, 5, 6, 7] := by decide +kernel
theorem gath_congr {f g : Nat → Bool} (k : Nat) (h : ∀ j, j < k → f j = g j) : gath f k = gath g k := by
  unfold gath
  rw [List.filter_congr (fun j hj => h j (by simpa using hj))]
theorem ref_gath (s n : Nat) (hs : s < 8) (hn : n < 6) : gath (fun j => refR n (s : Int) (j : Int)) 8 = reachL (s : Int) (n : Int) := by
  unfold reachL
  rw [if_pos ⟨by omega, by omega, by omega⟩, Int.toNat_natCast, Int.toNat_natCast, Nat.min_eq_left (by omega)]
  exact gath_congr 8 fun j hj => ref_reach ⟨n, hn⟩ ⟨s, hs⟩ ⟨j, hj⟩
theorem reach_full' (s n : Nat) (hs : s < 8) (hn : 5 ≤ n) : reachL (s : Int) (n : Int) = [0, 1, 2, 3, 4, 5, 6, 7] := by
  by_cases h : n < 8
  · have := reach_full ⟨s, hs⟩ ⟨n - 5, by omega⟩
    simp only at this
    rwa [show n - 5 + 5 = n by omega] at this
  · have := reach_full ⟨s, hs⟩ ⟨3, by omega⟩
    unfold reachL at this ⊢
    rw [if_pos ⟨by omega, by omega, by omega⟩] at this ⊢
    simp only [Int.toNat_natCast] at this ⊢
    rw [Nat.min_eq_right (by omega)]
    exact this

set_option maxHeartbeats 1000000 in
theorem ModesReach_walk (s : Int) (bs : -9223372036854775808 ≤ s ∧ s ≤ 9223372036854775807) (n : Int) (bn : -9223372036854775808 ≤ n ∧ n ≤ 9223372036854775807) (w : World) (ht : Tab w) :
    Calls Tryd.prog 5 #[.int .i64 s, .int .i64 n] w fun e w' => e = .returned (.bool true) ∧ Below w.heap.size w w' := by
  have HT := Lib.hid ht
  clear ht
  obtain ⟨bs0, bs1⟩ := bs
  obtain ⟨bn0, bn1⟩ := bn
  by_cases hin : 0 ≤ s ∧ s ≤ 7 ∧ 0 ≤ n
  · obtain ⟨s0, s1, n0⟩ := hin
    by_cases hn5 : 5 < n
    · have hf : ∀ m : Int, 5 ≤ m → reachL s m = [0, 1, 2, 3, 4, 5, 6, 7] := by
        intro m hm
        obtain ⟨k, rfl⟩ := Int.eq_ofNat_of_zero_le s0
        obtain ⟨j, rfl⟩ := Int.eq_ofNat_of_zero_le (show 0 ≤ m by omega)
        exact reach_full' k j (by omega) (by omega)
      have HF := Lib.hid hf
      clear hf
      go_enter Tryd.func5, Tryd.ntmps5
      go_wp2_with fail
      refine (Reach_any _ _ _ HT.out bn1).mono ?_; rintro e w1 ⟨v, rfl, hv, hb1⟩
      rw [HF.out n (by omega)] at hv
      have HV := Lib.hid hv
      obtain ⟨A, c, rfl, _, _⟩ := hv.form
      have HB1 := Lib.hid hb1
      clear hb1 hv
      go_wp2_with fail
      refine (Reach_any _ _ _ (HT.out.below HB1.out) (by omega)).mono ?_; rintro e w2 ⟨v2, rfl, hv2, hb2⟩
      rw [HF.out 5 (by omega)] at hv2
      have HV2 := Lib.hid hv2
      have HB2 := Lib.hid hb2
      clear hb2 hv2
      go_wp2_with fail
      refine (same_any _ _ [0, 1, 2, 3, 4, 5, 6, 7] _ _ (HV.out.below HB2.out) HV2.out).mono ?_; rintro e w3 ⟨rfl, k, rfl⟩
      rw [show sameF [0, 1, 2, 3, 4, 5, 6, 7] [0, 1, 2, 3, 4, 5, 6, 7] = true from rfl]
      go_wp2_with fail
      refine (awake_any _ ((HT.out.below (bl HB1.out HB2.out)).drewN k)).mono ?_; rintro e w4 ⟨rfl, hb4⟩
      go_wp2_with fail
      go_ret
      exact ⟨rfl, bl (bl HB1.out (below_drewN HB2.out k)) hb4⟩
    · obtain ⟨i0, hi, hz0, hz1, hz2⟩ := info_parts int_info
      obtain ⟨s, rfl⟩ := Int.eq_ofNat_of_zero_le s0
      obtain ⟨n, rfl⟩ := Int.eq_ofNat_of_zero_le n0
      have HG := Lib.hid (ref_gath s n (by omega) (by omega))
      have hd1 : decide (5 < (n : Int)) = false := by simp; omega
      have hd2 : decide (5 < n) = false := by simp; omega
      have hd3 : decide (7 < (s : Int)) = false := by simp; omega
      have hd4 : decide (7 < s) = false := by simp; omega
      have hd5 : decide ((s : Int) < 0) = false := by simp
      have hd6 : decide ((n : Int) < 0) = false := by simp
      go_enter Tryd.func5, Tryd.ntmps5
      go_wp2_with fail
      refine (Reach_any _ _ _ HT.out bn1).mono ?_; rintro e wl ⟨v, rfl, hv, hb1⟩
      rw [← HG.out] at hv
      have HV := Lib.hid hv
      have HB1 := Lib.hid hb1
      clear hb1 hv
      go_wp2_with fail
      go_loopw [6, 7] (fun v i wr => ∃ q : Nat, q ≤ 8 ∧ i = .int .i64 q ∧ wr.ownsRow wl.heap.size 3 1 v (gath (fun j => refR n (s : Int) (j : Int)) q).length ((gath (fun j => refR n (s : Int) (j : Int)) q).map (Value.int .i64)) ∧ Below wl.heap.size wl wr) (fun _ i _ => 8 - (intOf i).toNat)
      case atStart => exact ⟨0, by omega, rfl, World.ownsRow_lit wl #[] 0 (Nat.le_refl _) (by simp [maxLen]) rfl, (Below.refl _ _).alloc (Nat.le_refl _) _⟩
      case round =>
        obtain ⟨q, hq, rfl, hown, hb2⟩ := hrel
        have HO := Lib.hid hown
        have HB2 := Lib.hid hb2
        have hsz := hb2.size
        clear hown hb2
        by_cases hlq : q < 8
        · go_wp2_with fail
          refine (refReach_any n _ _ _ _ (by omega) (by omega) (by omega)).mono ?_; rintro e w2 ⟨rfl, hb3⟩
          have HO3 := Lib.hid (show w2.ownsRow wl.heap.size 3 1 _ (gath (fun j => refR n (s : Int) (j : Int)) q).length ((gath (fun j => refR n (s : Int) (j : Int)) q).map (Value.int .i64)) from World_ownsRow_bl HO.out hb3)
          have HB3 := Lib.hid (show Below wl.heap.size wl w2 from bl HB2.out hb3)
          have hsz3 := HB3.out.size
          clear hb3
          have hWt : refR n (s : Int) (q : Int) = true ∨ refR n (s : Int) (q : Int) = false := by cases refR n (s : Int) (q : Int) <;> simp
          rcases hWt with hr | hr
          · rw [hr]
            have HR := Lib.hid hr
            clear hr
            go_wp2_with (at_builtin; refine wpList_append_own _ rfl _ _ 30 rfl wl.heap.size 3 i0 (.int .i64 0) 1 8 Tryd.underlying30 hi hz0 hz1 hz2 rfl (by decide) _ _ _ rfl (HO3.out.alloc _) ⟨w2.heap.size, 0, none⟩ 1 1 [.int .i64 q] rfl rfl ?c1 ?c2 ?c3 ?c4 ?c5 ?_)
            case c1 =>
              intro j u hj
              match j, hj with
              | 0, hj => simp at hj; subst hj; simp [Addr.add]
            case c2 => intro u hu; simp at hu; subst hu; rfl
            case c3 => have := gath_len (fun j => refR n (s : Int) (j : Int)) q; unfold maxLen; omega
            case c4 => have := gath_len (fun j => refR n (s : Int) (j : Int)) q; omega
            case c5 => simp; omega
            intro v' w3 hown' hgrow _
            have R := Lib.hid (own_push HB3.out (Nat.le_refl _) hsz3 HO3.out hown' hgrow)
            clear hown' hgrow
            go_wp2_with fail
            go_roundw
            case rel => exact ⟨q + 1, by omega, by go_num, by rw [gath_succ_yes HR.out]; exact R.out.1, R.out.2.1⟩
            case measure => simp [intOf]; omega
          · rw [hr]
            have HR := Lib.hid hr
            clear hr
            go_wp2_with fail
            go_roundw
            case rel => exact ⟨q + 1, by omega, by go_num, by rw [gath_succ_no HR.out]; exact HO3.out, HB3.out⟩
            case measure => simp [intOf]; omega
        · have hq8 : q = 8 := by omega
          subst hq8
          have hwant := Lib.hid (ints_of_own HO.out (by have := gath_len (fun j => refR n (s : Int) (j : Int)) 8; unfold maxLen; omega))
          go_wp2_with fail
          refine (same_any _ _ _ _ _ (HV.out.below HB2.out) hwant.out).mono ?_; rintro e w3 ⟨rfl, k, rfl⟩
          rw [show ∀ l, sameF l l = true from fun l => by simp [sameF]]
          go_wp2_with fail
          refine (awake_any _ ((HT.out.below (bl HB1.out HB2.out)).drewN k)).mono ?_; rintro e w4 ⟨rfl, hb4⟩
          go_wp2_with fail
          go_ret
          exact ⟨rfl, bl (bl HB1.out (below_drewN HB2.out k)) hb4⟩
  · have hz : reachL s n = [] := by unfold reachL; rw [if_neg (by omega)]
    have HZ := Lib.hid hz
    clear hz
    by_cases h1 : s < 0
    all_goals by_cases h2 : 7 < s
    all_goals try omega
    all_goals by_cases h3 : n < 0
    all_goals try omega
    all_goals
      clear hin
      go_enter Tryd.func5, Tryd.ntmps5
      go_wp2_with fail
      refine (Reach_any _ _ _ HT.out bn1).mono ?_; rintro e w1 ⟨v, rfl, hv, hb1⟩
      rw [HZ.out] at hv
      obtain ⟨A, c, rfl, _, _⟩ := hv.form
      clear hv
      have HB1 := Lib.hid hb1
      clear hb1
      go_wp2_with fail
      refine (awake_any _ (HT.out.below HB1.out)).mono ?_; rintro e w4 ⟨rfl, hb4⟩
      go_wp2_with fail
      go_ret
      exact ⟨rfl, bl HB1.out hb4⟩
end Go.Proofs.YtmafkncobjiabaaDoor.Modes
