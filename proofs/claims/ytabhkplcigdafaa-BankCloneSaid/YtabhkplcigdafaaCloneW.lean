/-
  BankClone: the law's walk. No condition. By an AI agent.
-/
import Derived.Test.YtabhkplcigdafaaBankD
import Derived.Test.YtabhkplcigdafaaClone
namespace Go.Proofs.Ytabhkplcigdafaa.Bank
set_option linter.unusedVariables false
set_option linter.unusedSimpArgs false
open Go Go.RowKit Go.Proofs.Ytabhkplcigdafaa.Base Go.Deep

theorem rowBl {w w' : World} {b t n : Nat} {f : Nat → Value} (h : w.rowIs b t n f) (hb : Below w.heap.size w w') : w'.rowIs b t n f := h.of_block (hb.block _ h.lt)
theorem rowEx {w w' : World} {b t n g k : Nat} {f : Nat → Value} (h : w.rowIs b t n f) (hb : Ex2 g k w w') (h1 : b ≠ g) (h2 : b ≠ k) : w'.rowIs b t n f := h.of_block (hb.block _ h.lt h1 h2)
theorem wordNat {ws : List Int} {k : Nat} (h : k < ws.length) : wordF ws (k : Int) = nth ws k := by
  rw [wordF_in ⟨by omega, by omega⟩]; rfl

set_option maxRecDepth 100000 in
set_option maxHeartbeats 8000000 in
theorem BankClone_walk (v : Value) (x : Nat × (Nat → Act)) (a1 : Int) (b1 : -9223372036854775808 ≤ a1 ∧ a1 ≤ 9223372036854775807) (w : World) (hx : Acts w v x.1 x.2) :
    Calls Try.prog 9 #[v, .int .i64 a1] w fun e w' => e = .returned (.bool true) ∧ Below w.heap.size w w' := by
  obtain ⟨n, l⟩ := x
  simp only at hx
  obtain ⟨A, c, rfl, hl, hf⟩ := hx.form
  have HOK := Lib.hid hx.ok
  have HF := Lib.hid hf
  unfold maxLen at hl
  clear hf hx b1
  by_cases hn : n ≤ 60 ∧ (0 ≤ a1 ∧ a1 ≤ n)
  · obtain ⟨hn, ha0, ha1⟩ := hn
    obtain ⟨K, rfl⟩ : ∃ K : Nat, a1 = (K : Int) := ⟨a1.toNat, by omega⟩
    have hK : K ≤ n := by omega
    clear ha0 ha1
    have i1 : ¬ (n : Int) > 60 := by omega
    have i2 : ¬ (K : Int) < 0 := by omega
    have i3 : ¬ (K : Int) > (n : Int) := by omega
    have j1 : decide (60 < (n : Int)) = false := decide_eq_false (by omega)
    have j2 : decide ((K : Int) < 0) = false := decide_eq_false (by omega)
    have j3 : decide ((n : Int) < (K : Int)) = false := decide_eq_false (by omega)
    have j1' : decide (60 < n) = false := decide_eq_false (by omega)
    have j3' : decide (n < K) = false := decide_eq_false (by omega)
    go_enter Try.func9, Try.ntmps9
    go_wp2_with fail
    refine (New_in 6 (by omega) (by omega) _).mono ?_; rintro e w1 ⟨rfl, hb1, hl1, _⟩
    have O1 := Lib.hid (Own.new hb1 hl1)
    clear hb1 hl1
    generalize w.heap.size + 1 = g at *
    obtain ⟨h, hh⟩ : ∃ h, h = w.heap.size := ⟨_, rfl⟩
    rw [← hh] at O1
    clear hh
    go_wp2_with fail
    go_loopw [7] (fun i wr => ∃ k : Nat, k ≤ K ∧ i = .int .i64 k ∧ ∃ (ws : List Int) (t : Int), ws.length = 6 ∧ Own w wr g h ws t) (fun i _ => K - (intOf i).toNat)
    case atStart => exact ⟨0, by omega, rfl, _, _, zeros_len 6, O1.out⟩
    case round =>
      obtain ⟨k, hk, rfl, ws, t, hlen, hown⟩ := hrel
      have O3 := Lib.hid hown
      have HLEN := Lib.hid hlen
      clear hown hlen
      by_cases hlt : k < K
      · obtain ⟨b, o, rfl, hb, hc⟩ := HF.out (by omega)
        have hkn : k < n := by omega
        have HC := Lib.hid (hc k hkn)
        clear hc
        have c0' := (O3.out.below.cell (p := ⟨b, o + k * 4, none⟩) hb).trans HC.out.1
        have c1' := (O3.out.below.cell (p := ⟨b, o + k * 4 + 1, none⟩) hb).trans HC.out.2.1
        have c2' := (O3.out.below.cell (p := ⟨b, o + k * 4 + 2, none⟩) hb).trans HC.out.2.2.1
        have c3' := (O3.out.below.cell (p := ⟨b, o + k * 4 + 3, none⟩) hb).trans HC.out.2.2.2
        have hd1 : decide ((k : Int) < (K : Int)) = true := by simp; omega
        go_wp2_with fail
        refine (do_any g h ws t (l k) _ O3.out.bank (HOK.out k hkn)).mono ?_; rintro e w4 ⟨rfl, hb4, he4⟩
        have O4 := Lib.hid (O3.out.step hb4 he4)
        have HL2 := Lib.hid (show (doWs ws (l k)).length = 6 by rw [doWs_len]; exact HLEN.out)
        clear c0' c1' c2' c3' hb4 he4
        go_wp2_with fail
        go_roundw
        case rel => exact ⟨k + 1, by omega, by go_num, _, _, HL2.out, O4.out⟩
        case measure => simp [intOf]; omega
      · have hd1 : decide ((k : Int) < (K : Int)) = false := by simp; omega
        go_wp2_with fail
        refine (Clone_any g h ws t _ O3.out.bank).mono ?_; rintro e w4 ⟨rfl, hb4, hl4⟩
        have T4 := Lib.hid (Two.new O3.out hb4 hl4)
        clear hb4 hl4 O3
        generalize wr.heap.size + 1 = g2 at *
        generalize wr.heap.size = h2 at *
        have htt : (t != t) = false := by simp
        go_wp2_with fail
        refine (Len_any g2 h2 _ _ _ T4.out.own2.bank).mono ?_; rintro e w' ⟨rfl, rfl⟩
        rw [HLEN.out]
        go_wp2_with fail
        refine (Touches_any g2 h2 _ _ _ T4.out.own2.bank).mono ?_; rintro e w' ⟨rfl, rfl⟩
        go_wp2_with fail
        refine (Touches_any g h _ _ _ T4.out.own.bank).mono ?_; rintro e w' ⟨rfl, rfl⟩
        go_wp2_with fail
        obtain ⟨wo, rfl⟩ : ∃ wo : World, wo = w4 := ⟨_, rfl⟩
        have hgN : wo.heap.size ≠ g := by have := T4.out.own.bank.head.lt; omega
        have hhN : wo.heap.size ≠ h := by have := T4.out.own.bank.row.lt; omega
        have hgN2 : wo.heap.size ≠ g2 := by have := T4.out.own2.bank.head.lt; omega
        have hhN2 : wo.heap.size ≠ h2 := by have := T4.out.own2.bank.row.lt; omega
        have hwN := T4.out.own.below.size
        go_loopw [10] (fun j w2 => ∃ q : Nat, q ≤ 6 ∧ j = .int .i64 q ∧ w2.rowIs wo.heap.size 50 6 (fun j => .int .u64 (if j < q then nth ws j else 0)) ∧ Two w w2 g h g2 h2 ws t ws t) (fun j _ => 6 - (intOf j).toNat)
        case atStart =>
          refine ⟨0, by omega, rfl, ?_, T4.out.go ((Below.refl _ _).alloc (Nat.le_refl _) _)⟩
          exact World.rowIs_alloc wo #[.int .u64 0, .int .u64 0, .int .u64 0, .int .u64 0, .int .u64 0, .int .u64 0] 50 _ (fun i hi => by
            match i, hi with
            | 0, _ => rfl
            | 1, _ => rfl
            | 2, _ => rfl
            | 3, _ => rfl
            | 4, _ => rfl
            | 5, _ => rfl)
        case round =>
          obtain ⟨q, hq, rfl, hrow, hown⟩ := hrel
          have HROW := Lib.hid hrow
          have T5 := Lib.hid hown
          clear hrow hown
          by_cases hlq : q < 6
          · have hi0 : (0 : Int) ≤ (q : Int) := by omega
            have hi1 : (q : Int) < 6 := by omega
            have hne : (nth ws q != nth ws q) = false := by simp
            go_wp2_with fail
            refine (Peek_any g h ws t q _ T5.out.own.bank).mono ?_; rintro e w3 ⟨rfl, hb3⟩
            rw [wordNat (by rw [HLEN.out]; exact hlq)]
            have T6 := Lib.hid (T5.out.go hb3)
            have HROW3 := Lib.hid (rowBl HROW.out hb3)
            clear hb3
            have cN := HROW3.out.cell hlq
            have fN := HROW3.out.frozen q
            obtain ⟨wz, hwz⟩ : ∃ wz : World, wz = w3.setCell ⟨wo.heap.size, q, none⟩ (.int .u64 (nth ws q)) := ⟨_, rfl⟩
            have R7 := (HROW3.out.set q (.int .u64 (nth ws q))).congr (g := fun j => .int .u64 (if j < q + 1 then nth ws j else 0)) (fun j hj => by
              by_cases e : j = q
              · subst e; simp
              · rw [if_neg e]
                by_cases e2 : j < q
                · rw [if_pos e2, if_pos (by omega)]
                · rw [if_neg e2, if_neg (by omega)])
            have T7 := Lib.hid (T6.out.far hwN hgN hhN hgN2 hhN2 q (.int .u64 (nth ws q)))
            rw [← hwz] at R7 T7
            have HROW7 := Lib.hid R7
            clear R7
            have hnonempty : Nonempty (Held (Below wz.heap.size wz)) := ⟨⟨wz, Below.refl _ _⟩⟩
            have cw : ∀ x : Held (Below wz.heap.size wz), x.w.cell? ⟨wo.heap.size, q, none⟩ = some (.int .u64 (nth ws q)) := fun x => by
              have := (rowBl HROW7.out x.ok).cell hlq
              rwa [if_pos (Nat.lt_succ_self q)] at this
            have HPK := Lib.hid (show ∀ W, Below wz.heap.size wz W → Calls Try.prog 13 #[.pointer (some ⟨g2, 0, none⟩), .int .i64 q] W fun e w' => e = .returned (.int .u64 (nth ws q)) ∧ Below wz.heap.size wz w' from fun W hW => by
              have := Peek_any g2 h2 ws t q W (T7.out.go hW).own2.bank
              rw [wordNat (by rw [HLEN.out]; exact hlq)] at this
              exact this.mono fun _ _ ⟨he, hb⟩ => ⟨he, bl hW hb⟩)
            go_wp2_with fail
            rw [← hwz]
            clear hwz cN fN
            refine drawn_held (S := Below wz.heap.size wz) (by kernel_rfl) (by kernel_rfl) (Below.refl _ _).drew ?_
            repeat (go_big_quiet_step ((go_at_call 13; exact held_call HPK.out)))
            refine wpQuiet_nil ?_
            intro w7 hw'; obtain ⟨⟨w7', hb7⟩, hw''⟩ := hw'; dsimp only at hw''; subst hw''
            have Q1 := Lib.hid (T7.out.go hb7)
            have Q3 := Lib.hid (rowBl HROW7.out hb7)
            clear hb7 cw
            go_wp2_with fail
            go_roundw
            case rel => exact ⟨q + 1, by omega, by go_num, Q3.out, Q1.out⟩
            case measure => simp [intOf]; omega
          · have HR6 := Lib.hid (HROW.out.congr (g := fun j => .int .u64 (nth ws j)) (fun j hj => by rw [if_pos (by omega)]))
            clear HROW
            go_wp2_with fail
            refine (Touches_any g h _ _ _ T5.out.own.bank).mono ?_; rintro e w' ⟨rfl, rfl⟩
            go_wp2_with fail
            go_loopw [12] (fun i wr => ∃ k : Nat, k ≤ n ∧ i = .int .i64 k ∧ ∃ (ws2 : List Int) (t2 : Int), wr.rowIs wo.heap.size 50 6 (fun j => .int .u64 (nth ws j)) ∧ Two w wr g h g2 h2 ws t ws2 t2) (fun i _ => n - (intOf i).toNat)
            case atStart => exact ⟨K, by omega, rfl, _, _, HR6.out, T5.out⟩
            case round =>
              obtain ⟨k, hk, rfl, ws2, t2, hrow, hown⟩ := hrel
              have HROW := Lib.hid hrow
              have T6 := Lib.hid hown
              clear hrow hown
              by_cases hlt : k < n
              · obtain ⟨b, o, rfl, hb, hc⟩ := HF.out (by omega)
                have HC := Lib.hid (hc k hlt)
                clear hc
                have c0' := (T6.out.own.below.cell (p := ⟨b, o + k * 4, none⟩) hb).trans HC.out.1
                have c1' := (T6.out.own.below.cell (p := ⟨b, o + k * 4 + 1, none⟩) hb).trans HC.out.2.1
                have c2' := (T6.out.own.below.cell (p := ⟨b, o + k * 4 + 2, none⟩) hb).trans HC.out.2.2.1
                have c3' := (T6.out.own.below.cell (p := ⟨b, o + k * 4 + 3, none⟩) hb).trans HC.out.2.2.2
                have hd1 : decide ((k : Int) < (n : Int)) = true := decide_eq_true (by omega)
                go_wp2_with fail
                refine (do_any g2 h2 ws2 t2 (l k) _ T6.out.own2.bank (HOK.out k hlt)).mono ?_; rintro e w5 ⟨rfl, hb5, he5⟩
                have T7 := Lib.hid (T6.out.right hb5 he5)
                have HR7 := Lib.hid (rowEx HROW.out he5 hgN2 hhN2)
                clear c0' c1' c2' c3' hb5 he5
                go_wp2_with fail
                go_roundw
                case rel => exact ⟨k + 1, by omega, by go_num, _, _, HR7.out, T7.out⟩
                case measure => simp [intOf]; omega
              · have hd1 : decide ((k : Int) < (n : Int)) = false := decide_eq_false (by omega)
                go_wp2_with fail
                go_loopw [13] (fun i wr => ∃ q : Nat, q ≤ 6 ∧ i = .int .i64 q ∧ wr.rowIs wo.heap.size 50 6 (fun j => .int .u64 (nth ws j)) ∧ Two w wr g h g2 h2 ws t ws2 t2) (fun i _ => 6 - (intOf i).toNat)
                case atStart => exact ⟨0, by omega, rfl, HROW.out, T6.out⟩
                case round =>
                  obtain ⟨q3, hq3, rfl, hrow, hown⟩ := hrel
                  have HROW8 := Lib.hid hrow
                  have T8 := Lib.hid hown
                  clear hrow hown
                  by_cases hlq3 : q3 < 6
                  · have hi0 : (0 : Int) ≤ (q3 : Int) := by omega
                    have hi1 : (q3 : Int) < 6 := by omega
                    have hne : (nth ws q3 != nth ws q3) = false := by simp
                    obtain ⟨wz, rfl⟩ : ∃ wz : World, wz = wr := ⟨_, rfl⟩
                    have hnonempty : Nonempty (Held (Below wz.heap.size wz)) := ⟨⟨wz, Below.refl _ _⟩⟩
                    have cw : ∀ x : Held (Below wz.heap.size wz), x.w.cell? ⟨wo.heap.size, q3, none⟩ = some (.int .u64 (nth ws q3)) := fun x => (rowBl HROW8.out x.ok).cell hlq3
                    have HPK := Lib.hid (show ∀ W, Below wz.heap.size wz W → Calls Try.prog 13 #[.pointer (some ⟨g, 0, none⟩), .int .i64 q3] W fun e w' => e = .returned (.int .u64 (nth ws q3)) ∧ Below wz.heap.size wz w' from fun W hW => by
                      have := Peek_any g h ws t q3 W (T8.out.go hW).own.bank
                      rw [wordNat (by rw [HLEN.out]; exact hlq3)] at this
                      exact this.mono fun _ _ ⟨he, hb⟩ => ⟨he, bl hW hb⟩)
                    go_wp2_with fail
                    refine drawn_held (S := Below wz.heap.size wz) (by kernel_rfl) (by kernel_rfl) (Below.refl _ _).drew ?_
                    repeat (go_big_quiet_step ((go_at_call 13; exact held_call HPK.out)))
                    refine wpQuiet_nil ?_
                    intro w7 hw'; obtain ⟨⟨w7', hb7⟩, hw''⟩ := hw'; dsimp only at hw''; subst hw''
                    have Q1 := Lib.hid (T8.out.go hb7)
                    have Q3 := Lib.hid (rowBl HROW8.out hb7)
                    clear hb7 cw
                    go_wp2_with fail
                    go_roundw
                    case rel => exact ⟨q3 + 1, by omega, by go_num, Q3.out, Q1.out⟩
                    case measure => simp [intOf]; omega
                  · have htt2 : (t == t) = true := by simp
                    go_wp2_with fail
                    refine (Load_nil _ _).mono ?_; rintro e wa ⟨rfl, hba⟩
                    have T9 := Lib.hid (T8.out.go hba)
                    clear hba T8
                    go_wp2_with fail
                    refine (CAS_nil _ _ _ _).mono ?_; rintro e wb ⟨rfl, hba⟩
                    have T8 := Lib.hid (T9.out.go hba)
                    clear hba T9
                    go_wp2_with fail
                    refine (Add_nil _ _ _).mono ?_; rintro e wc ⟨rfl, hba⟩
                    have T9 := Lib.hid (T8.out.go hba)
                    clear hba T8
                    go_wp2_with fail
                    refine (Touches_any g h _ _ _ T9.out.own.bank).mono ?_; rintro e w' ⟨rfl, rfl⟩
                    go_wp2_with fail
                    refine (Store_nil _ _ _).mono ?_; rintro e wd ⟨rfl, hba⟩
                    have T8 := Lib.hid (T9.out.go hba)
                    clear hba T9
                    go_wp2_with fail
                    refine (Len_nil _).mono ?_; rintro e w' ⟨rfl, rfl⟩
                    go_wp2_with fail
                    refine (Touches_nil _).mono ?_; rintro e w' ⟨rfl, rfl⟩
                    go_wp2_with fail
                    refine (Peek_nil _ _).mono ?_; rintro e wf ⟨rfl, hba⟩
                    have T9 := Lib.hid (T8.out.go hba)
                    clear hba T8
                    go_wp2_with fail
                    refine (Clone_nil _).mono ?_; rintro e w' ⟨rfl, rfl⟩
                    go_wp2_with fail
                    refine (awake_any _).mono ?_; rintro e w5 ⟨rfl, hb5⟩
                    go_wp2_with fail
                    go_ret
                    exact ⟨rfl, bl T9.out.own.below hb5⟩
  · have hcase : (60 < (n : Int)) ∨ (¬ 60 < (n : Int) ∧ a1 < 0) ∨ (¬ 60 < (n : Int) ∧ ¬ a1 < 0 ∧ (n : Int) < a1) := by omega
    have hc3 : (decide (60 < (n : Int)) = true) ∨ (decide (60 < (n : Int)) = false ∧ decide (a1 < 0) = true) ∨ (decide (60 < (n : Int)) = false ∧ decide (a1 < 0) = false ∧ decide ((n : Int) < a1) = true) := by
      simp only [decide_eq_true_eq, decide_eq_false_iff_not]; exact hcase
    clear hcase
    rcases hc3 with q0 | ⟨q0, q1⟩ | ⟨q0, q1, q2⟩
    all_goals
      go_enter Try.func9, Try.ntmps9
      go_wp2_with fail
      refine (New_in 6 (by omega) (by omega) _).mono ?_; rintro e w1 ⟨rfl, hb1, hl1, _⟩
      have HL1 := Lib.hid hl1
      clear hb1 hl1
      go_wp2_with fail
      refine (awake_any _).mono ?_; rintro e w5 ⟨rfl, hb5⟩
      go_wp2_with fail
      go_ret
      exact ⟨rfl, bl HL1.out hb5⟩
end Go.Proofs.Ytabhkplcigdafaa.Bank
