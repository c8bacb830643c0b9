/-
  QueueRanks: the law's walk. No condition. By an AI agent.
-/
import Derived.Test.YthfkgbgbhjnpdaaQAwake
import Derived.Test.YthfkgbgbhjnpdaaSubs
import Derived.Deep.CutRange
namespace Go.Proofs.Ythfkgbgbhjnpdaa.Queue
set_option linter.unusedVariables false
set_option linter.unusedSimpArgs false
open Go Go.RowKit Go.Proofs.Ythfkgbgbhjnpdaa.Base Go.Deep

theorem best_spec (l : Nat → Sub) (gs : List Int) (k : Nat) :
    (best l gs k = -1 ∧ ∀ i, i < k → nth gs i < (seen (l i).cur (nth gs i)).next) ∨
    ∃ B : Nat, best l gs k = (B : Int) ∧ B < k ∧ ¬ nth gs B < (seen (l B).cur (nth gs B)).next ∧ ∀ i, i < k → ¬ nth gs i < (seen (l i).cur (nth gs i)).next → (l i).rank < (l B).rank ∨ ((l i).rank = (l B).rank ∧ B ≤ i) := by
  induction k with
  | zero => exact .inl ⟨rfl, fun i hi => absurd hi (by omega)⟩
  | succ k ih =>
    rw [best_succ]
    by_cases h1 : nth gs k < (seen (l k).cur (nth gs k)).next
    · rw [if_pos h1]
      rcases ih with ⟨e, h⟩ | ⟨B, e, hB, hw, h⟩
      · exact .inl ⟨e, fun i hi => by
          by_cases q : i = k
          · rw [q]; exact h1
          · exact h i (by omega)⟩
      · exact .inr ⟨B, e, by omega, hw, fun i hi hn => by
          by_cases q : i = k
          · rw [q] at hn; exact absurd h1 hn
          · exact h i (by omega) hn⟩
    · rw [if_neg h1]
      rcases ih with ⟨e, h⟩ | ⟨B, e, hB, hw, h⟩
      · rw [e, if_neg (by omega)]
        exact .inr ⟨k, rfl, by omega, h1, fun i hi hn => by
          by_cases q : i = k
          · rw [q]; exact .inr ⟨rfl, Nat.le_refl _⟩
          · exact absurd (h i (by omega)) hn⟩
      · rw [e, show ((B : Int)).toNat = B from rfl]
        by_cases h2 : (l k).rank ≤ (l B).rank
        · rw [if_pos ⟨by omega, h2⟩]
          exact .inr ⟨B, rfl, by omega, hw, fun i hi hn => by
            by_cases q : i = k
            · rw [q]
              by_cases h3 : (l k).rank = (l B).rank
              · exact .inr ⟨h3, by omega⟩
              · exact .inl (by omega)
            · exact h i (by omega) hn⟩
        · rw [if_neg (by omega)]
          exact .inr ⟨k, rfl, by omega, h1, fun i hi hn => by
            by_cases q : i = k
            · rw [q]; exact .inr ⟨rfl, Nat.le_refl _⟩
            · rcases h i (by omega) hn with h4 | ⟨h4, _⟩
              · exact .inl (by omega)
              · exact .inl (by omega)⟩
theorem count_zero {c : Cur} {g : Int} (hr : c.Right) (hi : Is g) (h : g < (seen c g).next) : countC c g = 0 := by
  unfold countC waits; rw [if_pos (mayE_yes hr hi), if_pos h]
theorem count_pos {c : Cur} {g : Int} (hr : c.Right) (hi : Is g) (h : ¬ g < (seen c g).next) : 0 < countC c g := by
  unfold countC waits; rw [if_pos (mayE_yes hr hi), if_neg h]; omega

set_option maxRecDepth 100000 in
set_option maxHeartbeats 16000000 in
theorem QueueRanks_walk (v : Value) (x0 : Nat × (Nat → Sub)) (u : Value) (gs : List Int) (w : World) (hs : Subs w v x0.1 x0.2) (hi : Ints w .u64 u gs) (hg : ∀ x ∈ gs, (Lit.int .u64 x).wf = true) :
    Calls Try.prog 8 #[v, u] w fun e w' => e = .returned (.bool true) ∧ Below w.heap.size w w' := by
  obtain ⟨n, l⟩ := x0
  simp only at hs
  have HPICK := Lib.hid (fun W (hb : Below w.heap.size w W) => Pick_any v n l u gs w hs hi (fun x hx => u64_bounds (hg x hx)))
  have PICK := Lib.hid (Pick_any v n l u gs w hs hi (fun x hx => u64_bounds (hg x hx)))
  clear HPICK
  have HGB := Lib.hid (show ∀ i, i < gs.length → 0 ≤ nth gs i ∧ nth gs i ≤ 18446744073709551615 from fun i h => u64_bounds (hg _ (nth_mem h)))
  have hne := show gs ≠ [] ↔ 0 < gs.length from by cases gs <;> simp
  obtain ⟨A, c, rfl, hl, hf⟩ := hs.form
  obtain ⟨A2, c2, rfl, hl2, hf2⟩ := hi.form
  have HF := Lib.hid hf
  have HF2 := Lib.hid (fun h => hf2 (hne.2 h))
  have HOK := Lib.hid hs.ok
  unfold maxLen at hl hl2
  clear hf hf2 hs hi hg hne
  by_cases hn : n ≤ 40 ∧ gs.length ≤ 40
  · obtain ⟨hn1, hn2⟩ := hn
    have k1 : decide (40 < (n : Int)) = false := decide_eq_false (by omega)
    have k1' : decide (40 < n) = false := decide_eq_false (by omega)
    have k2 : decide (40 < (gs.length : Int)) = false := decide_eq_false (by omega)
    have k2' : decide (40 < gs.length) = false := decide_eq_false (by omega)
    go_enter Try.func8, Try.ntmps8
    go_wp2_with fail
    refine PICK.out.mono ?_; rintro e w1 ⟨x, er, rfl, hp, hb1⟩
    have LB := Lib.hid hb1
    clear hb1
    have hsplit : (x = 0 ∧ (er = 1 ∨ er = 10)) ∨ (n = gs.length ∧ (∀ i, i < n → (l i).cur.Right) ∧ (∀ i, i < n → Is (nth gs i)) ∧ x = best l gs n ∧ er = 0) := by
      unfold PickIs at hp
      rcases hp with ⟨_, a, b⟩ | ⟨_, _, a, b⟩ | ⟨_, _, _, a, b⟩ | h
      · exact .inl ⟨a, .inl b⟩
      · exact .inl ⟨a, .inl b⟩
      · exact .inl ⟨a, .inr b⟩
      · exact .inr h
    clear hp
    rcases hsplit with ⟨rfl, rfl | rfl⟩ | ⟨hnl, hrt, his, hx, rfl⟩
    · go_wp2_with fail
      refine (awake_any _).mono ?_; rintro e w8 ⟨rfl, hb8⟩
      have L8 := Lib.hid (bl LB.out hb8)
      clear hb8
      go_wp2_with fail
      go_ret
      exact ⟨rfl, L8.out⟩
    · go_wp2_with fail
      refine (awake_any _).mono ?_; rintro e w8 ⟨rfl, hb8⟩
      have L8 := Lib.hid (bl LB.out hb8)
      clear hb8
      go_wp2_with fail
      go_ret
      exact ⟨rfl, L8.out⟩
    · have HCNT := Lib.hid (show ∀ i, i < n → ∀ W, Calls Try.prog 16 #[(l i).cur.val, .int .u64 (nth gs i)] W fun e w' => e = .returned (.int .i64 (countC (l i).cur (nth gs i))) ∧ Below W.heap.size W w' from fun i h => Count_any _ _ (HOK.out i h).cur (HGB.out i (by omega)))
      have hspec := best_spec l gs n
      rw [← hx] at hspec
      have hnl' : ((n : Int) != (gs.length : Int)) = false := by simp; omega
      have hnn : ((n : Int) != (n : Int)) = false := by simp
      have hnL := Lib.hid hnl
      rw [← hnl] at HF2 k2 k2' hnl' hl2 hn2
      simp only [← hnl]
      clear hx hnl
      rcases hspec with ⟨rfl, hall⟩ | ⟨B, rfl, hBn, hBw, hall⟩
      · have HNONE := Lib.hid (show ∀ i, i < n → countC (l i).cur (nth gs i) = 0 from fun i h => count_zero (hrt i h) (his i h) (hall i h))
        clear hall hrt his
        obtain ⟨wz, rfl⟩ : ∃ wz : World, wz = w1 := ⟨_, rfl⟩
        have h3 : decide ((-1 : Int) < -1) = false := rfl
        have h4 : decide ((n : Int) ≤ -1) = false := decide_eq_false (by omega)
        go_upto_region 6 with fail
        go_quiet (fail)
        have LB' := Lib.hid (below_drewN LB.out nq)
        clear LB
        have LB := LB'
        clear LB'
        go_wp2_with fail
        go_loopw [7] (fun i wr => ∃ q : Nat, q ≤ n ∧ i = .int .i64 q ∧ Below w.heap.size w wr) (fun i _ => n - (intOf i).toNat)
        case atStart => exact ⟨0, by omega, rfl, LB.out⟩
        case round =>
          obtain ⟨q, hq, rfl, hbl⟩ := hrel
          have LZ := Lib.hid hbl
          clear hbl
          by_cases hlt : q < n
          · obtain ⟨wz, rfl⟩ : ∃ wz : World, wz = wr := ⟨_, rfl⟩
            obtain ⟨b, o, rfl, hb, hcc⟩ := HF.out (by omega)
            obtain ⟨b2, o2, rfl, hb2, hcc2⟩ := HF2.out (by omega)
            have HC := Lib.hid hcc
            have HC2 := Lib.hid hcc2
            clear hcc hcc2
            have qlt := hlt
            have qlt2 := hlt
            have hi0 : (0 : Int) ≤ (q : Int) := by omega
            have hi1 : (q : Int) < (n : Int) := by omega
            have hd1 : decide ((q : Int) < (n : Int)) = true := decide_eq_true hi1
            have qcnt := Lib.hid (HCNT.out q hlt)
            unfold Cur.val at qcnt
            have qm0 : ∀ x : Held (Below wz.heap.size wz), x.w.cell? ⟨b, o + q * 6 + 1, none⟩ = some (.int .i64 (l q).rank) := fun x => ((bl LZ.out x.ok).cell (p := ⟨b, o + q * 6 + 1, none⟩) hb).trans (HC.out q qlt).2.1
            have qm1 : ∀ x : Held (Below wz.heap.size wz), x.w.cell? ⟨b, o + q * 6 + 2, none⟩ = some (.int .u64 (l q).cur.next) := fun x => ((bl LZ.out x.ok).cell (p := ⟨b, o + q * 6 + 2, none⟩) hb).trans (HC.out q qlt).2.2.1
            have qm2 : ∀ x : Held (Below wz.heap.size wz), x.w.cell? ⟨b, o + q * 6 + 3, none⟩ = some (.int .i64 (l q).cur.cap) := fun x => ((bl LZ.out x.ok).cell (p := ⟨b, o + q * 6 + 3, none⟩) hb).trans (HC.out q qlt).2.2.2.1
            have qm3 : ∀ x : Held (Below wz.heap.size wz), x.w.cell? ⟨b, o + q * 6 + 4, none⟩ = some (.int .u64 (l q).cur.got) := fun x => ((bl LZ.out x.ok).cell (p := ⟨b, o + q * 6 + 4, none⟩) hb).trans (HC.out q qlt).2.2.2.2.1
            have qm4 : ∀ x : Held (Below wz.heap.size wz), x.w.cell? ⟨b, o + q * 6 + 5, none⟩ = some (.int .u64 (l q).cur.lost) := fun x => ((bl LZ.out x.ok).cell (p := ⟨b, o + q * 6 + 5, none⟩) hb).trans (HC.out q qlt).2.2.2.2.2
            have qg : ∀ x : Held (Below wz.heap.size wz), x.w.cell? ⟨b2, o2 + q, none⟩ = some (.int .u64 (nth gs q)) := fun x => ((bl LZ.out x.ok).cell (p := ⟨b2, o2 + q, none⟩) hb2).trans (HC2.out q qlt2)
            have hz := HNONE.out q hlt
            rw [hz] at qcnt
            have qc := Lib.hid (show ∀ W, Below wz.heap.size wz W → Calls Try.prog 16 #[.agg #[.int .u64 (l q).cur.next, .int .i64 (l q).cur.cap, .int .u64 (l q).cur.got, .int .u64 (l q).cur.lost], .int .u64 (nth gs q)] W fun e w' => e = .returned (.int .i64 0) ∧ Below wz.heap.size wz w' from fun W hW => (qcnt.out W).mono fun _ _ ⟨he, hb⟩ => ⟨he, bl hW hb⟩)
            have hnonempty : Nonempty (Held (Below wz.heap.size wz)) := ⟨⟨wz, Below.refl _ _⟩⟩
            go_upto_region 11 with fail
            refine drawn_held (S := Below wz.heap.size wz) (by kernel_rfl) (by kernel_rfl) (Below.refl _ _).drew ?_
            repeat (go_big_quiet_step ((go_at_call 16; exact held_call qc.out)))
            refine wpQuiet_nil ?_
            intro w7 hw'; obtain ⟨⟨w7', hb7⟩, hw''⟩ := hw'; dsimp only at hw''; subst hw''
            have L9 := Lib.hid (bl LZ.out hb7)
            clear hb7 hnonempty
            go_wp2_with fail
            go_roundw
            case rel => exact ⟨q + 1, by omega, by go_num, L9.out⟩
            case measure => simp [intOf]; omega
          · have hd1 : decide ((q : Int) < (n : Int)) = false := decide_eq_false (by omega)
            go_wp2_with fail
            refine (awake_any _).mono ?_; rintro e w8 ⟨rfl, hb8⟩
            have L8 := Lib.hid (bl LZ.out hb8)
            clear hb8
            go_wp2_with fail
            go_ret
            exact ⟨rfl, L8.out⟩
      · have hBpos := count_pos (hrt B hBn) (his B hBn) hBw
        have HBEST := Lib.hid (show ∀ i, i < n → countC (l i).cur (nth gs i) ≠ 0 → 0 < countC (l i).cur (nth gs i) ∧ ((l i).rank < (l B).rank ∨ ((l i).rank = (l B).rank ∧ B ≤ i)) from fun i h hne => by
          by_cases hz : nth gs i < (seen (l i).cur (nth gs i)).next
          · exact absurd (count_zero (hrt i h) (his i h) hz) hne
          · exact ⟨count_pos (hrt i h) (his i h) hz, hall i h hz⟩)
        clear hall hrt his hBw
        obtain ⟨wz, rfl⟩ : ∃ wz : World, wz = w1 := ⟨_, rfl⟩
        obtain ⟨b, o, rfl, hb, hcc⟩ := HF.out (by omega)
        obtain ⟨b2, o2, rfl, hb2, hcc2⟩ := HF2.out (by omega)
        have HC := Lib.hid hcc
        have HC2 := Lib.hid hcc2
        clear hcc hcc2
        have Blt := hBn
        have Blt2 := hBn
        have hB0 : (0 : Int) ≤ (B : Int) := by omega
        have hB1 : (B : Int) < (n : Int) := by omega
        have h3 : decide ((B : Int) < -1) = false := decide_eq_false (by omega)
        have h4 : decide ((n : Int) ≤ (B : Int)) = false := decide_eq_false (by omega)
        have h4' : decide (n ≤ B) = false := decide_eq_false (by omega)
        have h5 : decide ((0 : Int) ≤ (B : Int)) = true := decide_eq_true hB0
        have Bcnt := Lib.hid (HCNT.out B hBn)
        unfold Cur.val at Bcnt
        generalize hcB : countC (l B).cur (nth gs B) = cB at Bcnt hBpos
        have h6 : (cB == 0) = false := by simp; omega
        have hnonempty : Nonempty (Held (Below wz.heap.size wz)) := ⟨⟨wz, Below.refl _ _⟩⟩
        have Bm0 : ∀ x : Held (Below wz.heap.size wz), x.w.cell? ⟨b, o + B * 6 + 1, none⟩ = some (.int .i64 (l B).rank) := fun x => ((bl LB.out x.ok).cell (p := ⟨b, o + B * 6 + 1, none⟩) hb).trans (HC.out B Blt).2.1
        have Bm1 : ∀ x : Held (Below wz.heap.size wz), x.w.cell? ⟨b, o + B * 6 + 2, none⟩ = some (.int .u64 (l B).cur.next) := fun x => ((bl LB.out x.ok).cell (p := ⟨b, o + B * 6 + 2, none⟩) hb).trans (HC.out B Blt).2.2.1
        have Bm2 : ∀ x : Held (Below wz.heap.size wz), x.w.cell? ⟨b, o + B * 6 + 3, none⟩ = some (.int .i64 (l B).cur.cap) := fun x => ((bl LB.out x.ok).cell (p := ⟨b, o + B * 6 + 3, none⟩) hb).trans (HC.out B Blt).2.2.2.1
        have Bm3 : ∀ x : Held (Below wz.heap.size wz), x.w.cell? ⟨b, o + B * 6 + 4, none⟩ = some (.int .u64 (l B).cur.got) := fun x => ((bl LB.out x.ok).cell (p := ⟨b, o + B * 6 + 4, none⟩) hb).trans (HC.out B Blt).2.2.2.2.1
        have Bm4 : ∀ x : Held (Below wz.heap.size wz), x.w.cell? ⟨b, o + B * 6 + 5, none⟩ = some (.int .u64 (l B).cur.lost) := fun x => ((bl LB.out x.ok).cell (p := ⟨b, o + B * 6 + 5, none⟩) hb).trans (HC.out B Blt).2.2.2.2.2
        have Bg : ∀ x : Held (Below wz.heap.size wz), x.w.cell? ⟨b2, o2 + B, none⟩ = some (.int .u64 (nth gs B)) := fun x => ((bl LB.out x.ok).cell (p := ⟨b2, o2 + B, none⟩) hb2).trans (HC2.out B Blt2)
        have Bc := Lib.hid (show ∀ W, Below wz.heap.size wz W → Calls Try.prog 16 #[.agg #[.int .u64 (l B).cur.next, .int .i64 (l B).cur.cap, .int .u64 (l B).cur.got, .int .u64 (l B).cur.lost], .int .u64 (nth gs B)] W fun e w' => e = .returned (.int .i64 cB) ∧ Below wz.heap.size wz w' from fun W hW => (Bcnt.out W).mono fun _ _ ⟨he, hb⟩ => ⟨he, bl hW hb⟩)
        go_upto_region 6 with fail
        refine drawn_held (S := Below wz.heap.size wz) (by kernel_rfl) (by kernel_rfl) (Below.refl _ _).drew ?_
        repeat (go_big_quiet_step ((go_at_call 16; exact held_call Bc.out)))
        refine wpQuiet_nil ?_
        intro w7 hw'; obtain ⟨⟨w7', hb7⟩, hw''⟩ := hw'; dsimp only at hw''; subst hw''
        have LB' := Lib.hid (bl LB.out hb7)
        clear LB hb7 hnonempty Bm0 Bm1 Bm2 Bm3 Bm4 Bg hcB hBpos
        have LB := LB'
        clear LB'
        have HFb := Lib.hid (show 0 < n → ∃ b' o', (some (⟨b, o, none⟩ : Addr)) = some ⟨b', o', none⟩ ∧ True from fun _ => ⟨b, o, rfl, trivial⟩)
        go_wp2_with fail
        go_loopw [7] (fun i wr => ∃ q : Nat, q ≤ n ∧ i = .int .i64 q ∧ Below w.heap.size w wr) (fun i _ => n - (intOf i).toNat)
        case atStart => exact ⟨0, by omega, rfl, LB.out⟩
        case round =>
          obtain ⟨q, hq, rfl, hbl⟩ := hrel
          have LZ := Lib.hid hbl
          clear hbl
          by_cases hlt : q < n
          · obtain ⟨wz, rfl⟩ : ∃ wz : World, wz = wr := ⟨_, rfl⟩
            skip
            skip
            skip
            skip
            skip
            have qlt := hlt
            have qlt2 := hlt
            have hi0 : (0 : Int) ≤ (q : Int) := by omega
            have hi1 : (q : Int) < (n : Int) := by omega
            have hd1 : decide ((q : Int) < (n : Int)) = true := decide_eq_true hi1
            have qcnt := Lib.hid (HCNT.out q hlt)
            unfold Cur.val at qcnt
            have qm0 : ∀ x : Held (Below wz.heap.size wz), x.w.cell? ⟨b, o + q * 6 + 1, none⟩ = some (.int .i64 (l q).rank) := fun x => ((bl LZ.out x.ok).cell (p := ⟨b, o + q * 6 + 1, none⟩) hb).trans (HC.out q qlt).2.1
            have qm1 : ∀ x : Held (Below wz.heap.size wz), x.w.cell? ⟨b, o + q * 6 + 2, none⟩ = some (.int .u64 (l q).cur.next) := fun x => ((bl LZ.out x.ok).cell (p := ⟨b, o + q * 6 + 2, none⟩) hb).trans (HC.out q qlt).2.2.1
            have qm2 : ∀ x : Held (Below wz.heap.size wz), x.w.cell? ⟨b, o + q * 6 + 3, none⟩ = some (.int .i64 (l q).cur.cap) := fun x => ((bl LZ.out x.ok).cell (p := ⟨b, o + q * 6 + 3, none⟩) hb).trans (HC.out q qlt).2.2.2.1
            have qm3 : ∀ x : Held (Below wz.heap.size wz), x.w.cell? ⟨b, o + q * 6 + 4, none⟩ = some (.int .u64 (l q).cur.got) := fun x => ((bl LZ.out x.ok).cell (p := ⟨b, o + q * 6 + 4, none⟩) hb).trans (HC.out q qlt).2.2.2.2.1
            have qm4 : ∀ x : Held (Below wz.heap.size wz), x.w.cell? ⟨b, o + q * 6 + 5, none⟩ = some (.int .u64 (l q).cur.lost) := fun x => ((bl LZ.out x.ok).cell (p := ⟨b, o + q * 6 + 5, none⟩) hb).trans (HC.out q qlt).2.2.2.2.2
            have qg : ∀ x : Held (Below wz.heap.size wz), x.w.cell? ⟨b2, o2 + q, none⟩ = some (.int .u64 (nth gs q)) := fun x => ((bl LZ.out x.ok).cell (p := ⟨b2, o2 + q, none⟩) hb2).trans (HC2.out q qlt2)
            have hB0 : (0 : Int) ≤ (B : Int) := by omega
            have hB1 : (B : Int) < (n : Int) := by omega
            have hd2 : decide ((B : Int) < 0) = false := decide_eq_false (by omega)
            have Blt : B < n := hBn
            have Bm0 : ∀ x : Held (Below wz.heap.size wz), x.w.cell? ⟨b, o + B * 6 + 1, none⟩ = some (.int .i64 (l B).rank) := fun x => ((bl LZ.out x.ok).cell (p := ⟨b, o + B * 6 + 1, none⟩) hb).trans (HC.out B Blt).2.1
            have hcase := HBEST.out q hlt
            by_cases hz : countC (l q).cur (nth gs q) = 0
            · rw [hz] at qcnt
              have qc := Lib.hid (show ∀ W, Below wz.heap.size wz W → Calls Try.prog 16 #[.agg #[.int .u64 (l q).cur.next, .int .i64 (l q).cur.cap, .int .u64 (l q).cur.got, .int .u64 (l q).cur.lost], .int .u64 (nth gs q)] W fun e w' => e = .returned (.int .i64 0) ∧ Below wz.heap.size wz w' from fun W hW => (qcnt.out W).mono fun _ _ ⟨he, hb⟩ => ⟨he, bl hW hb⟩)
              have hnonempty : Nonempty (Held (Below wz.heap.size wz)) := ⟨⟨wz, Below.refl _ _⟩⟩
              clear hcase hz
              go_upto_region 11 with fail
              refine drawn_held (S := Below wz.heap.size wz) (by kernel_rfl) (by kernel_rfl) (Below.refl _ _).drew ?_
              repeat (go_big_quiet_step ((go_at_call 16; exact held_call qc.out)))
              refine wpQuiet_nil ?_
              intro w7 hw'; obtain ⟨⟨w7', hb7⟩, hw''⟩ := hw'; dsimp only at hw''; subst hw''
              have L9 := Lib.hid (bl LZ.out hb7)
              clear hb7 hnonempty
              go_wp2_with fail
              go_roundw
              case rel => exact ⟨q + 1, by omega, by go_num, L9.out⟩
              case measure => simp [intOf]; omega
            · have hp := hcase hz
              generalize countC (l q).cur (nth gs q) = cn at *
              have hcn : decide (0 < cn) = true := decide_eq_true hp.1
              have qc := Lib.hid (show ∀ W, Below wz.heap.size wz W → Calls Try.prog 16 #[.agg #[.int .u64 (l q).cur.next, .int .i64 (l q).cur.cap, .int .u64 (l q).cur.got, .int .u64 (l q).cur.lost], .int .u64 (nth gs q)] W fun e w' => e = .returned (.int .i64 cn) ∧ Below wz.heap.size wz w' from fun W hW => (qcnt.out W).mono fun _ _ ⟨he, hb⟩ => ⟨he, bl hW hb⟩)
              have hr1 : decide ((l B).rank < (l q).rank) = false := decide_eq_false (by omega)
              have hp2 := hp.2
              clear hcase hz hp
              rcases hp2 with hp2 | ⟨hp2, hp3⟩
              · have hr2 : ((l q).rank == (l B).rank) = false := by simp; omega
                clear hp2
                have hnonempty : Nonempty (Held (Below wz.heap.size wz)) := ⟨⟨wz, Below.refl _ _⟩⟩
                go_upto_region 11 with fail
                refine drawn_held (S := Below wz.heap.size wz) (by kernel_rfl) (by kernel_rfl) (Below.refl _ _).drew ?_
                repeat (go_big_quiet_step ((go_at_call 16; exact held_call qc.out)))
                refine wpQuiet_nil ?_
                intro w7 hw'; obtain ⟨⟨w7', hb7⟩, hw''⟩ := hw'; dsimp only at hw''; subst hw''
                have L9 := Lib.hid (bl LZ.out hb7)
                clear hb7 hnonempty
                go_wp2_with fail
                go_roundw
                case rel => exact ⟨q + 1, by omega, by go_num, L9.out⟩
                case measure => simp [intOf]; omega
              · have hr2 : ((l q).rank == (l B).rank) = true := by simp; omega
                have hr3 : decide ((q : Int) < (B : Int)) = false := decide_eq_false (by omega)
                have hr3' : decide (q < B) = false := decide_eq_false (by omega)
                clear hp2 hp3
                have hnonempty : Nonempty (Held (Below wz.heap.size wz)) := ⟨⟨wz, Below.refl _ _⟩⟩
                go_upto_region 11 with fail
                refine drawn_held (S := Below wz.heap.size wz) (by kernel_rfl) (by kernel_rfl) (Below.refl _ _).drew ?_
                repeat (go_big_quiet_step ((go_at_call 16; exact held_call qc.out)))
                refine wpQuiet_nil ?_
                intro w7 hw'; obtain ⟨⟨w7', hb7⟩, hw''⟩ := hw'; dsimp only at hw''; subst hw''
                have L9 := Lib.hid (bl LZ.out hb7)
                clear hb7 hnonempty
                go_wp2_with fail
                go_roundw
                case rel => exact ⟨q + 1, by omega, by go_num, L9.out⟩
                case measure => simp [intOf]; omega
          · have hd1 : decide ((q : Int) < (n : Int)) = false := decide_eq_false (by omega)
            go_wp2_with fail
            refine (awake_any _).mono ?_; rintro e w8 ⟨rfl, hb8⟩
            have L8 := Lib.hid (bl LZ.out hb8)
            clear hb8
            go_wp2_with fail
            go_ret
            exact ⟨rfl, L8.out⟩
  · have hk : decide (40 < (n : Int)) = true ∨ (decide (40 < (n : Int)) = false ∧ decide (40 < (gs.length : Int)) = true) := by
      by_cases q : 40 < (n : Int)
      · exact .inl (decide_eq_true q)
      · exact .inr ⟨decide_eq_false q, decide_eq_true (by omega)⟩
    rcases hk with k1 | ⟨k1, k2⟩
    all_goals
      go_enter Try.func8, Try.ntmps8
      go_wp2_with fail
      refine (awake_any _).mono ?_; rintro e w8 ⟨rfl, hb8⟩
      go_wp2_with fail
      go_ret
      exact ⟨rfl, hb8⟩
end Go.Proofs.Ythfkgbgbhjnpdaa.Queue
