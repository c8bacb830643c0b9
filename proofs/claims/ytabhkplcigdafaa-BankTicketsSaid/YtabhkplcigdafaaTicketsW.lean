/-
  BankTickets: the law's walk. No condition. By an AI agent.
-/
import Derived.Test.YtabhkplcigdafaaBankD
namespace Go.Proofs.Ytabhkplcigdafaa.Bank
set_option linter.unusedVariables false
set_option linter.unusedSimpArgs false
open Go Go.RowKit Go.Proofs.Ytabhkplcigdafaa.Base

set_option maxRecDepth 100000 in
set_option maxHeartbeats 2000000 in
theorem BankTickets_walk (first : Int) (bf : 0 ≤ first ∧ first ≤ 18446744073709551615) (v : Value) (x : Nat × (Nat → Act)) (w : World) (hx : Acts w v x.1 x.2) :
    Calls Try.prog 6 #[.int .u64 first, v] w fun e w' => e = .returned (.bool true) ∧ Below w.heap.size w w' := by
  obtain ⟨n, l⟩ := x
  simp only at hx
  obtain ⟨A, c, rfl, hl, hf⟩ := hx.form
  have HOK := Lib.hid hx.ok
  have HF := Lib.hid hf
  have HBF := Lib.hid bf
  unfold maxLen at hl
  clear hf hx bf
  by_cases hn : n ≤ 200
  · have hin : ∀ ws : List Int, ws.length = 8 → inW ws 3 := fun ws h => ⟨by omega, by rw [h]; omega⟩
    have HIN := Lib.hid hin
    clear hin
    go_enter Try.func6, Try.ntmps6
    go_wp2_with fail
    refine (New_in 8 (by omega) (by omega) _).mono ?_; rintro e w1 ⟨rfl, hb1, hl1, _⟩
    have O1 := Lib.hid (Own.new hb1 hl1)
    clear hb1 hl1
    generalize w.heap.size + 1 = g at *
    obtain ⟨h, hh⟩ : ∃ h, h = w.heap.size := ⟨_, rfl⟩
    have HH := Lib.hid hh
    clear hh
    go_wp2_with fail
    refine (Store_any g _ _ _ _ _ _ O1.out.bank HBF.out).mono ?_; rintro e w2 ⟨rfl, hb2, he2⟩
    rw [errF_in (HIN.out _ (zeros_len 8))]
    have O2 := Lib.hid (O1.out.step hb2 he2)
    rw [← HH.out] at O2
    clear hb2 he2
    have hf3 : nth (setF (zeros 8) 3 first) 3 = first := by
      rw [setF_in (HIN.out _ (zeros_len 8))]
      exact nth_set_same (by rw [zeros_len]; decide)
    have HF3 := Lib.hid hf3
    have HL := Lib.hid (show (setF (zeros 8) 3 first).length = 8 by rw [setF_len, zeros_len])
    clear hf3
    go_wp2_with fail
    go_loopw [7, 8] (fun nx i wr => ∃ k : Nat, k ≤ n ∧ i = .int .i64 k ∧ ∃ ws t, nx = .int .u64 (nth ws 3) ∧ ws.length = 8 ∧ Own w wr g h ws t) (fun _ i _ => n - (intOf i).toNat)
    case atStart => exact ⟨0, by omega, rfl, _, _, by rw [HF3.out], HL.out, O2.out⟩
    case round =>
      obtain ⟨k, hk, rfl, ws, t, rfl, hlen, hown⟩ := hrel
      have O3 := Lib.hid hown
      have HIN3 := Lib.hid (HIN.out ws hlen)
      have HLEN := Lib.hid hlen
      clear hown hlen
      by_cases hlt : k < n
      · obtain ⟨b, o, rfl, hb, hc⟩ := HF.out (by omega)
        obtain ⟨c0, c1, c2, c3⟩ := hc k hlt
        have c0' := (O3.out.below.cell (p := ⟨b, o + k * 4, none⟩) hb).trans c0
        have c1' := (O3.out.below.cell (p := ⟨b, o + k * 4 + 1, none⟩) hb).trans c1
        have c2' := (O3.out.below.cell (p := ⟨b, o + k * 4 + 2, none⟩) hb).trans c2
        have c3' := (O3.out.below.cell (p := ⟨b, o + k * 4 + 3, none⟩) hb).trans c3
        clear hc c0 c1 c2 c3
        cases h3 : ((l k).at_ != 3) with
        | true =>
          have HNE := Lib.hid (show (l k).at_ ≠ ((3 : Nat) : Int) by simpa using h3)
          go_wp2_with fail
          refine (do_any g h ws t (l k) _ O3.out.bank (HOK.out k hlt)).mono ?_; rintro e w4 ⟨rfl, hb4, he4⟩
          have O4 := Lib.hid (O3.out.step hb4 he4)
          clear hb4 he4
          go_wp2_with fail
          go_roundw
          case rel => exact ⟨k + 1, by omega, by go_num, _, _, by rw [doWs_other _ _ _ HNE.out], by rw [doWs_len]; exact HLEN.out, O4.out⟩
          case measure => simp [intOf]; omega
        | false =>
          clear c0' c2' c3'
          have hnn : (nth ws 3 != nth ws 3) = false := by simp
          go_wp2_with fail
          refine (Add_any g h ws t 3 1 _ O3.out.bank).mono ?_; rintro e w4 ⟨rfl, hb4, he4⟩
          rw [errF_in HIN3.out, wordF_in HIN3.out, show (3 : Int).toNat = 3 from rfl]
          rw [wordF_in HIN3.out, setF_in HIN3.out, show (3 : Int).toNat = 3 from rfl] at hb4
          have O4 := Lib.hid (O3.out.step hb4 he4)
          have HN := Lib.hid (nth_set_same (ws := ws) (i := 3) (x := IntKind.u64.wrap (nth ws 3 + 1)) (by rw [HLEN.out]; omega))
          clear hb4 he4
          go_wp2_with fail
          go_roundw
          case rel => exact ⟨k + 1, by omega, by go_num, _, _, by rw [HN.out], by rw [List.length_set]; exact HLEN.out, O4.out⟩
          case measure => simp [intOf]; omega
      · go_wp2_with fail
        refine (Peek_any g h ws t 3 _ O3.out.bank).mono ?_; rintro e w4 ⟨rfl, hb4⟩
        rw [wordF_in HIN3.out, show (3 : Int).toNat = 3 from rfl]
        have O4 := Lib.hid (O3.out.go hb4)
        clear hb4
        have hee : (nth ws 3 == nth ws 3) = true := by simp
        go_wp2_with fail
        refine (awake_any _).mono ?_; rintro e w5 ⟨rfl, hb5⟩
        go_wp2_with fail
        go_ret
        exact ⟨rfl, bl O4.out.below hb5⟩
  · go_enter Try.func6, Try.ntmps6
    go_wp2_with fail
    refine (New_in 8 (by omega) (by omega) _).mono ?_; rintro e w1 ⟨rfl, hb1, hl1, _⟩
    have HL1 := Lib.hid hl1
    clear hb1 hl1
    go_wp2_with fail
    refine (awake_any _).mono ?_; rintro e w5 ⟨rfl, hb5⟩
    go_wp2_with fail
    go_ret
    exact ⟨rfl, bl HL1.out hb5⟩
end Go.Proofs.Ytabhkplcigdafaa.Bank
