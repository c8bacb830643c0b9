/-
  BankActs: the law's walk. No condition. By an AI agent.
-/
import Derived.Test.YtabhkplcigdafaaActsB
import Derived.Deep.OwnRows
import Derived.Deep.RegionWith
import Derived.Test.YtabhkplcigdafaaHead
namespace Go.Proofs.Ytabhkplcigdafaa.Bank
set_option linter.unusedVariables false
set_option linter.unusedSimpArgs false
open Go Go.RowKit Go.Proofs.Ytabhkplcigdafaa.Base Go.Deep

set_option maxRecDepth 100000 in
set_option maxHeartbeats 8000000 in
theorem BankActs_walk (a0 : Int) (b0 : -9223372036854775808 ≤ a0 ∧ a0 ≤ 9223372036854775807) (v : Value) (x : Nat × (Nat → Act)) (w : World) (hx : Acts w v x.1 x.2) :
    Calls Try.prog 8 #[.int .i64 a0, v] w fun e w' => e = .returned (.bool true) ∧ Below w.heap.size w w' := by
  obtain ⟨n, l⟩ := x
  simp only at hx
  obtain ⟨A, c, rfl, hl, hf⟩ := hx.form
  have HOK := Lib.hid hx.ok
  have HF := Lib.hid hf
  unfold maxLen at hl
  clear hf hx b0
  by_cases hn : (1 ≤ a0 ∧ a0 ≤ 40) ∧ n ≤ 200
  · obtain ⟨⟨g1, g2'⟩, hn⟩ := hn
    obtain ⟨N, rfl⟩ : ∃ N : Nat, a0 = (N : Int) := ⟨a0.toNat, by omega⟩
    have hN1 : 1 ≤ N := by omega
    have hN2 : N ≤ 40 := by omega
    have i1 : ¬ (N : Int) < 1 := by omega
    have i2 : ¬ (N : Int) > 40 := by omega
    clear g1 g2'
    go_enter Try.func8, Try.ntmps8
    go_wp2_with fail
    refine (New_in N hN1 (by omega) _).mono ?_; rintro e w1 ⟨rfl, hb1, hl1, _⟩
    have O1 := Lib.hid (Own.new hb1 hl1)
    clear hb1 hl1
    generalize w.heap.size + 1 = g at *
    obtain ⟨h, hh⟩ : ∃ h, h = w.heap.size := ⟨_, rfl⟩
    rw [← hh] at O1
    clear hh
    have hnn : ((N : Int) != (N : Int)) = false := by simp
    go_wp2_with fail
    refine (Len_any g h _ _ _ O1.out.bank).mono ?_; rintro e w' ⟨rfl, rfl⟩
    rw [zeros_len]
    go_wp2_with fail
    refine (refNew N (by omega) _).mono ?_; rintro e w2 ⟨rfl, hb2, hl2⟩
    have B2 := Lib.hid (Both.new O1.out hl2 hb2)
    clear hb2 hl2
    generalize w1.heap.size + 1 = g2 at *
    generalize w1.heap.size = h2 at *
    go_wp2_with fail
    go_loopw [8] (fun i wr => ∃ k : Nat, k ≤ n ∧ i = .int .i64 k ∧ ∃ (ws : List Int) (t : Int), ws.length = N ∧ Both w wr g h g2 h2 ws t ws t) (fun i _ => n - (intOf i).toNat)
    case atStart => exact ⟨0, by omega, rfl, _, _, zeros_len N, B2.out⟩
    case round =>
      obtain ⟨k, hk, rfl, ws, t, hlen, hown⟩ := hrel
      have B3 := Lib.hid hown
      have HLEN := Lib.hid hlen
      clear hown hlen
      by_cases hlt : k < n
      · obtain ⟨b, o, rfl, hb, hc⟩ := HF.out (by omega)
        have HC := Lib.hid (hc k hlt)
        clear hc
        have c0' := (B3.out.own.below.cell (p := ⟨b, o + k * 4, none⟩) hb).trans HC.out.1
        have c1' := (B3.out.own.below.cell (p := ⟨b, o + k * 4 + 1, none⟩) hb).trans HC.out.2.1
        have c2' := (B3.out.own.below.cell (p := ⟨b, o + k * 4 + 2, none⟩) hb).trans HC.out.2.2.1
        have c3' := (B3.out.own.below.cell (p := ⟨b, o + k * 4 + 3, none⟩) hb).trans HC.out.2.2.2
        go_wp2_with fail
        refine (do_any g h ws t (l k) _ B3.out.own.bank (HOK.out k hlt)).mono ?_; rintro e w4 ⟨rfl, hb4, he4⟩
        have B4 := Lib.hid (B3.out.left hb4 he4)
        have HL2 := Lib.hid (show (doWs ws (l k)).length = N by rw [doWs_len]; exact HLEN.out)
        clear c0' c1' c2' c3' hb4 he4
        have c0' := (B4.out.own.below.cell (p := ⟨b, o + k * 4, none⟩) hb).trans HC.out.1
        have c1' := (B4.out.own.below.cell (p := ⟨b, o + k * 4 + 1, none⟩) hb).trans HC.out.2.1
        have c2' := (B4.out.own.below.cell (p := ⟨b, o + k * 4 + 2, none⟩) hb).trans HC.out.2.2.1
        have c3' := (B4.out.own.below.cell (p := ⟨b, o + k * 4 + 3, none⟩) hb).trans HC.out.2.2.2
        go_wp2_with fail
        refine wp_region_head_call 21 _ _ (by kernel_rfl) (by kernel_rfl) rfl ?_
        simp only [List.take_succ_cons, List.take_zero]
        repeat still_step
        refine wpStill_nil ?_
        change wpList _ _ _ _ _ w4.drew
        have B4' := Lib.hid (B4.out.go (Below.refl _ _).drew)
        clear c0' c1' c2' c3'
        generalize w4.drew = w4' at *
        have c0' := (B4'.out.own.below.cell (p := ⟨b, o + k * 4, none⟩) hb).trans HC.out.1
        have c1' := (B4'.out.own.below.cell (p := ⟨b, o + k * 4 + 1, none⟩) hb).trans HC.out.2.1
        have c2' := (B4'.out.own.below.cell (p := ⟨b, o + k * 4 + 2, none⟩) hb).trans HC.out.2.2.1
        have c3' := (B4'.out.own.below.cell (p := ⟨b, o + k * 4 + 3, none⟩) hb).trans HC.out.2.2.2
        go_wp2_with fail
        refine (refDo_any g2 h2 ws t (l k) _ B4'.out.ref (HOK.out k hlt)).mono ?_; rintro e w5 ⟨rfl, hb5, he5⟩
        have B5 := Lib.hid (B4'.out.right hb5 he5)
        clear c0' c1' c2' c3' hb5 he5
        generalize doWord ws (l k) = xw at *
        generalize errF ws (l k).at_ = ef at *
        generalize tickF ws (l k).at_ t = tf at *
        generalize doWs ws (l k) = ws' at *
        have n1 : (xw != xw) = false := by simp
        have n2 : (ef != ef) = false := by simp
        have n3 : (tf != tf) = false := by simp
        go_wp2_with fail
        refine behind_normal ?_
        repeat still_step
        refine wpStill_nil ?_
        obtain ⟨wz, rfl⟩ : ∃ wz : World, wz = w5 := ⟨_, rfl⟩
        have r1 : ∀ x : Held (Below wz.heap.size wz), x.w.cell? ⟨g2, 1, none⟩ = some (.int .i64 tf) := fun x => by
          have := (B5.out.go x.ok).ref.head.cell 1
          simpa only [List.getElem?_toArray, List.getElem?_cons_succ, List.getElem?_cons_zero] using this
        have HTO := Lib.hid (show ∀ W, Below wz.heap.size wz W → Calls Try.prog 17 #[.pointer (some ⟨g, 0, none⟩)] W fun e w' => e = .returned (.int .i64 tf) ∧ Below wz.heap.size wz w' from fun W hW =>
          (Touches_any g h _ tf W (B5.out.go hW).own.bank).mono fun _ _ ⟨he, hb⟩ => ⟨he, hb ▸ hW⟩)
        go_wp2_with fail
        have hnonempty : Nonempty (Held (Below wz.heap.size wz)) := ⟨⟨wz, Below.refl _ _⟩⟩
        refine drawn_held (S := Below wz.heap.size wz) (by kernel_rfl) (by kernel_rfl) (Below.refl _ _).drew ?_
        repeat (go_big_quiet_step ((go_at_call 17; exact held_call HTO.out)))
        refine wpQuiet_nil ?_
        intro w7 hw'; obtain ⟨⟨w7', hb7⟩, hw''⟩ := hw'; dsimp only at hw''; subst hw''
        have B7 := Lib.hid (B5.out.go hb7)
        clear hb7 r1 HTO hnonempty
        go_wp2_with fail
        go_loopw [13] (fun i wr => ∃ q : Nat, q ≤ N + 2 ∧ i = .int .i64 ((q : Int) - 1) ∧ Both w wr g h g2 h2 ws' tf ws' tf) (fun i _ => (N + 1 - intOf i).toNat)
        case atStart => exact ⟨0, by omega, by go_num, B7.out⟩
        case round =>
          obtain ⟨q, hq, rfl, hboth⟩ := hrel
          have B8 := Lib.hid hboth
          clear hboth
          by_cases hlq : q < N + 2
          · have hd3 : ((q : Int) - 1 ≤ (N : Int)) := by omega
            have hd4 : decide ((q : Int) - 1 ≤ (N : Int)) = true := by simp; omega
            have n4 : (wordF ws' ((q : Int) - 1) != wordF ws' ((q : Int) - 1)) = false := by simp
            go_wp2_with fail
            refine (Peek_any g h ws' tf _ _ B8.out.own.bank).mono ?_; rintro e w8 ⟨rfl, hb8⟩
            have B9 := Lib.hid (B8.out.go hb8)
            clear hb8
            go_wp2_with fail
            refine (refPeek_any g2 h2 ws' tf _ _ B9.out.ref).mono ?_; rintro e w' ⟨rfl, rfl⟩
            go_wp2_with fail
            go_roundw
            case rel => exact ⟨q + 1, by omega, by go_num, B9.out⟩
            case measure => simp [intOf]; omega
          · have hd3 : ¬ ((q : Int) - 1 ≤ (N : Int)) := by omega
            have hd4 : decide ((q : Int) - 1 ≤ (N : Int)) = false := by simp; omega
            go_wp2_with fail
            go_roundw
            case rel => exact ⟨k + 1, by omega, by go_num, ws', tf, HL2.out, B8.out⟩
            case measure => simp [intOf]; omega
      · obtain ⟨wz, rfl⟩ : ∃ wz : World, wz = wr := ⟨_, rfl⟩
        have n3 : (t == t) = true := by simp
        have r1 : ∀ x : Held (Below wz.heap.size wz), x.w.cell? ⟨g2, 1, none⟩ = some (.int .i64 t) := fun x => by
          have := (B3.out.go x.ok).ref.head.cell 1
          simpa only [List.getElem?_toArray, List.getElem?_cons_succ, List.getElem?_cons_zero] using this
        have HTO := Lib.hid (show ∀ W, Below wz.heap.size wz W → Calls Try.prog 17 #[.pointer (some ⟨g, 0, none⟩)] W fun e w' => e = .returned (.int .i64 t) ∧ Below wz.heap.size wz w' from fun W hW =>
          (Touches_any g h _ t W (B3.out.go hW).own.bank).mono fun _ _ ⟨he, hb⟩ => ⟨he, hb ▸ hW⟩)
        have HAW := Lib.hid (show ∀ W, Below wz.heap.size wz W → Calls Try.prog 11 #[] W fun e w' => e = .returned (.bool true) ∧ Below wz.heap.size wz w' from fun W hW =>
          (awake_any W).mono fun _ _ ⟨he, hb⟩ => ⟨he, bl hW hb⟩)
        go_wp2_with fail
        have hnonempty : Nonempty (Held (Below wz.heap.size wz)) := ⟨⟨wz, Below.refl _ _⟩⟩
        refine drawn_held (S := Below wz.heap.size wz) (by kernel_rfl) (by kernel_rfl) (Below.refl _ _).drew ?_
        repeat (go_big_quiet_step (first | (go_at_call 17; exact held_call HTO.out) | (go_at_call 11; exact held_call HAW.out)))
        refine wpQuiet_nil ?_
        intro w7 hw'; obtain ⟨⟨w7', hb7⟩, hw''⟩ := hw'; dsimp only at hw''; subst hw''
        have B7 := Lib.hid (B3.out.go hb7)
        clear hb7 r1 HTO HAW hnonempty
        go_wp2_with fail
        go_ret
        exact ⟨rfl, B7.out.own.below⟩
  · have ho : a0 < 1 ∨ (¬ a0 < 1 ∧ a0 > 40) ∨ (¬ a0 < 1 ∧ ¬ a0 > 40 ∧ (n : Int) > 200) := by omega
    rcases ho with q0 | ⟨q0, q1⟩ | ⟨q0, q1, q2⟩
    all_goals
      go_enter Try.func8, Try.ntmps8
      go_wp2_with fail
      refine (awake_any _).mono ?_; rintro e w5 ⟨rfl, hb5⟩
      go_wp2_with fail
      go_ret
      exact ⟨rfl, hb5⟩
end Go.Proofs.Ytabhkplcigdafaa.Bank
