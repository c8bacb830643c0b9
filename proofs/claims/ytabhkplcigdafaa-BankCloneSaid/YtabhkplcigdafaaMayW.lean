/-
  BankMay: the law's walk. No condition. By an AI agent.
-/
import Derived.Test.YtabhkplcigdafaaBankA
namespace Go.Proofs.Ytabhkplcigdafaa.Bank
set_option linter.unusedVariables false
set_option linter.unusedSimpArgs false
open Go Go.RowKit Go.Proofs.Ytabhkplcigdafaa.Base

theorem nth_zeros (n i : Nat) : nth (zeros n) i = 0 := by
  unfold nth zeros
  rw [List.getD_eq_getElem?_getD]
  by_cases h : i < n
  · rw [List.getElem?_replicate]; simp [h]
  · rw [List.getElem?_eq_none (by simpa using h)]; rfl
theorem wordF_zeros (n : Nat) (a : Int) : wordF (zeros n) a = 0 := by
  unfold wordF
  split
  · exact nth_zeros _ _
  · rfl
theorem nth_set_same {ws : List Int} {i : Nat} {x : Int} (h : i < ws.length) : nth (ws.set i x) i = x := by
  unfold nth
  rw [List.getD_eq_getElem?_getD, List.getElem?_set]
  simp [h]
theorem nth_set_other {ws : List Int} {i j : Nat} {x : Int} (h : i ≠ j) : nth (ws.set i x) j = nth ws j := by
  unfold nth
  rw [List.getD_eq_getElem?_getD, List.getElem?_set, if_neg h, List.getD_eq_getElem?_getD]

set_option maxRecDepth 100000 in
set_option maxHeartbeats 1000000 in
theorem BankMay_walk (n : Int) (bn : -9223372036854775808 ≤ n ∧ n ≤ 9223372036854775807) (w : World) :
    Calls Try.prog 5 #[.int .i64 n] w fun e w' => e = .returned (.bool true) ∧ Below w.heap.size w w' := by
  clear bn
  by_cases hin : 1 ≤ n ∧ n ≤ 1048576
  · obtain ⟨n1, n2⟩ := hin
    obtain ⟨n, rfl⟩ := Int.eq_ofNat_of_zero_le (show 0 ≤ n by omega)
    have hin1 : inW (zeros n) ((n : Int) - 1) := ⟨by omega, by rw [zeros_len]; omega⟩
    have F1 := Lib.hid (wordF_zeros n 0)
    have F2 := Lib.hid (wordF_zeros n ((n : Int) - 1))
    have F3 := Lib.hid (errF_in hin1)
    have F4 := Lib.hid (show tickF (zeros n) ((n : Int) - 1) 0 = 1 from (tickF_in hin1).trans (by decide))
    have F5 := Lib.hid (show setF (zeros n) ((n : Int) - 1) (IntKind.u64.wrap (0 + 5)) = (zeros n).set (n - 1) 5 by
      rw [setF_in hin1, show ((n : Int) - 1).toNat = n - 1 by omega]; rfl)
    have hl : ((zeros n).set (n - 1) 5).length = n := by rw [List.length_set, zeros_len]
    have hout : ¬ inW ((zeros n).set (n - 1) 5) (n : Int) := by unfold inW; rw [hl]; omega
    have hin2 : inW ((zeros n).set (n - 1) 5) ((n : Int) - 1) := ⟨by omega, by rw [hl]; omega⟩
    have F6 := Lib.hid (errF_out hout)
    have F7 := Lib.hid (wordF_out hout)
    have F8 := Lib.hid (show tickF ((zeros n).set (n - 1) 5) (n : Int) 1 = 1 from tickF_out hout)
    have F9 := Lib.hid (show wordF ((zeros n).set (n - 1) 5) ((n : Int) - 1) = 5 by
      rw [wordF_in hin2, show ((n : Int) - 1).toNat = n - 1 by omega]
      exact nth_set_same (by rw [zeros_len]; omega))
    have FL := Lib.hid (zeros_len n)
    have hnn : ((n : Int) != (n : Int)) = false := by simp
    clear hin1 hin2 hout hl
    go_enter Try.func5, Try.ntmps5
    go_wp2_with fail
    refine (New_in n (by omega) (by omega) _).mono ?_; rintro e w1 ⟨rfl, hb1, hl1, _⟩
    have O1 := Lib.hid (Own.new hb1 hl1)
    clear hb1 hl1
    generalize w.heap.size + 1 = g at *
    obtain ⟨h, hh⟩ : ∃ h, h = w.heap.size := ⟨_, rfl⟩
    go_wp2_with fail
    refine (May_in _ n1 n2 _).mono ?_; rintro e w' ⟨rfl, rfl⟩
    go_wp2_with fail
    refine (Len_any g _ _ _ _ O1.out.bank).mono ?_; rintro e w' ⟨rfl, rfl⟩
    rw [FL.out]
    go_wp2_with fail
    refine (Touches_any g _ _ _ _ O1.out.bank).mono ?_; rintro e w' ⟨rfl, rfl⟩
    go_wp2_with fail
    refine (Peek_any g _ _ _ _ _ O1.out.bank).mono ?_; rintro e w2 ⟨rfl, hb2⟩
    rw [F1.out]
    have O2 := Lib.hid (O1.out.go hb2)
    clear hb2
    go_wp2_with fail
    refine (Peek_any g _ _ _ _ _ O2.out.bank).mono ?_; rintro e w3 ⟨rfl, hb3⟩
    rw [F2.out]
    have O3 := Lib.hid (O2.out.go hb3)
    clear hb3
    go_wp2_with fail
    refine (Add_any g _ _ _ _ _ _ O3.out.bank).mono ?_; rintro e w4 ⟨rfl, hb4, he4⟩
    rw [F2.out, F3.out]
    rw [F2.out, F5.out, F4.out] at hb4
    have O4 := Lib.hid (O3.out.step hb4 he4)
    clear hb4 he4
    go_wp2_with fail
    refine (Load_any g _ _ _ _ _ O4.out.bank).mono ?_; rintro e w5 ⟨rfl, hb5, he5⟩
    rw [F6.out, F7.out]
    rw [F8.out] at hb5
    have O5 := Lib.hid (O4.out.step hb5 he5)
    clear hb5 he5
    go_wp2_with fail
    refine (Peek_any g _ _ _ _ _ O5.out.bank).mono ?_; rintro e w6 ⟨rfl, hb6⟩
    rw [F9.out]
    have O6 := Lib.hid (O5.out.go hb6)
    clear hb6
    go_wp2_with fail
    refine (Touches_any g _ _ _ _ O6.out.bank).mono ?_; rintro e w' ⟨rfl, rfl⟩
    go_wp2_with fail
    refine (awake_any _).mono ?_; rintro e w7 ⟨rfl, hb7⟩
    go_wp2_with fail
    go_ret
    exact ⟨rfl, bl O6.out.below hb7⟩
  · have hout : n < 1 ∨ 1048576 < n := by omega
    have HO := Lib.hid hout
    clear hin hout
    go_enter Try.func5, Try.ntmps5
    go_wp2_with fail
    refine (New_out n HO.out _).mono ?_; rintro e w' ⟨rfl, rfl⟩
    go_wp2_with fail
    refine (May_out _ HO.out _).mono ?_; rintro e w' ⟨rfl, rfl⟩
    go_wp2_with fail
    refine (awake_any _).mono ?_; rintro e w7 ⟨rfl, hb7⟩
    go_wp2_with fail
    go_ret
    exact ⟨rfl, hb7⟩
end Go.Proofs.Ytabhkplcigdafaa.Bank
