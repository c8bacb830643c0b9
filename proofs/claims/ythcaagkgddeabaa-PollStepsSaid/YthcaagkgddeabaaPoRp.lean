/-
  The reference's cursor (package aileronref11): contracts of its calls. Conditions stand at each. By an AI agent.
  The reference's Pick over its own subscriptions. Conditions stand at each. By an AI agent.
-/
import Derived.Test.YthcaagkgddeabaaPick
import Derived.Deep.CutRange
namespace Go.Proofs.Ythcaagkgddeabaa.Queue
set_option linter.unusedVariables false
set_option linter.unusedSimpArgs false
open Go Go.RowKit Go.Proofs.Ythcaagkgddeabaa.Base

theorem Is_any (g : Int) (w : World) : Calls Try.prog 75 #[.int .u64 g] w fun e w' => e = .returned (.bool (decide (g < 9223372036854775808))) ∧ w = w' := by
  go_enter Try.func75, Try.ntmps75
  go_wp2_with fail
  go_ret
  exact ⟨rfl, rfl⟩

theorem refRight_any (c : Cur) (w : World) : Calls Try.prog 59 #[c.val] w fun e w' => e = .returned (.bool (decide c.Right)) ∧ Below w.heap.size w w' := by
  obtain ⟨nx, cp, gt, ls⟩ := c
  have hcases : (decide (1 ≤ cp) = false ∧ decide (Cur.Right ⟨nx, cp, gt, ls⟩) = false) ∨ (decide (1 ≤ cp) = true ∧ decide (cp ≤ 15) = false ∧ decide (Cur.Right ⟨nx, cp, gt, ls⟩) = false) ∨
      (decide (1 ≤ cp) = true ∧ decide (cp ≤ 15) = true ∧ decide (Cur.Right ⟨nx, cp, gt, ls⟩) = decide (nx ≤ 9223372036854775808)) := by
    by_cases h1 : 1 ≤ cp
    · by_cases h2 : cp ≤ 15
      · refine .inr (.inr ⟨decide_eq_true h1, decide_eq_true h2, ?_⟩)
        by_cases h3 : nx ≤ 9223372036854775808
        · rw [decide_eq_true h3]; exact decide_eq_true ⟨⟨h1, h2⟩, h3⟩
        · rw [decide_eq_false h3]; exact decide_eq_false fun h => h3 h.2
      · exact .inr (.inl ⟨decide_eq_true h1, decide_eq_false h2, decide_eq_false fun h => h2 h.1.2⟩)
    · exact .inl ⟨decide_eq_false h1, decide_eq_false fun h => h1 h.1.1⟩
  unfold Cur.val
  rcases hcases with ⟨k1, k3⟩ | ⟨k1, k2, k3⟩ | ⟨k1, k2, k3⟩
  all_goals
    rw [k3]
    clear k3
    go_enter Try.func59, Try.ntmps59
    go_wp2_with fail
    go_ret
    exact ⟨rfl, (Below.refl _ _).alloc (Nat.le_refl _) _⟩

/-- exactly the box is new -/
theorem Waits_any (c : Cur) (g : Int) (hc : 0 ≤ c.next) (hg : 0 ≤ g) (hi : Is g) (w : World) :
    Calls Try.prog 76 #[c.val, .int .u64 g] w fun e w' => e = .returned (.int .u64 (waits c g)) ∧ w' = w.alloc (.cells #[.int .u64 c.next, .int .i64 c.cap, .int .u64 c.got, .int .u64 c.lost] 125) := by
  obtain ⟨nx, cp, gt, ls⟩ := c
  unfold Is at hi
  unfold waits
  unfold Cur.val
  simp only at hc ⊢
  by_cases h : g < nx
  · rw [if_pos h]
    have k : decide (g < nx) = true := decide_eq_true h
    go_enter Try.func76, Try.ntmps76
    go_wp2_with fail
    go_ret
    exact ⟨rfl, rfl⟩
  · rw [if_neg h]
    have k : decide (g < nx) = false := decide_eq_false h
    go_enter Try.func76, Try.ntmps76
    go_wp2_with fail
    go_ret
    exact ⟨rfl, rfl⟩

set_option maxRecDepth 100000 in
set_option maxHeartbeats 4000000 in
theorem refSee_any (c : Cur) (g : Int) (hc : c.Ok) (hg : 0 ≤ g) (hr : c.Right) (hi : Is g) (w : World) :
    Calls Try.prog 62 #[c.val, .int .u64 g] w fun e w' => e = .returned (seen c g).val ∧ Below w.heap.size w w' := by
  have HW := Lib.hid (Waits_any c g hc.next.1 hg hi)
  obtain ⟨nx, cp, gt, ls⟩ := c
  obtain ⟨⟨n0, n1⟩, ⟨p0, p1⟩, ⟨g0, g1⟩, ⟨l0, l1⟩⟩ := hc
  obtain ⟨⟨r1, r2⟩, r3⟩ := hr
  unfold Is at hi
  unfold seen
  unfold waits at HW
  simp only at n0 n1 p0 p1 g0 g1 l0 l1 r1 r2 r3
  simp only at HW ⊢
  by_cases hlt : g < nx
  · rw [if_pos hlt] at HW ⊢
    have k2 : decide (cp < 0) = false := decide_eq_false (by omega)
    unfold Cur.val at *
    go_enter Try.func62, Try.ntmps62
    go_wp2_with fail
    refine (HW.out _).mono ?_; rintro e w' ⟨rfl, rfl⟩
    go_wp2_with fail
    trace "E1"
    (try simp only [Exit.inBlock, Exit.then])
    refine bodyPost_ret (v := .agg #[.int .u64 nx, .int .i64 cp, .int .u64 gt, .int .u64 ls]) ?_ rfl ⟨rfl, ?_⟩
    · simp [results, asAddr]; go_simp
    · (repeat (first | refine Below.setCell ?_ (by simp <;> omega) _ | refine Below.alloc ?_ (by simp <;> omega) _ | exact Below.refl _ _))
  · rw [if_neg hlt] at HW ⊢
    by_cases hw : g - nx + 1 > cp
    · rw [if_pos hw]
      have k2 : decide (cp < g - nx + 1) = true := decide_eq_true (by omega)
      unfold Cur.val at *
      go_enter Try.func62, Try.ntmps62
      go_wp2_with fail
      refine (HW.out _).mono ?_; rintro e w' ⟨rfl, rfl⟩
      go_wp2_with fail
      trace "E2"
      (try simp only [Exit.inBlock, Exit.then])
      refine bodyPost_ret (v := .agg #[.int .u64 (g - cp + 1), .int .i64 cp, .int .u64 gt, .int .u64 (IntKind.u64.wrap (ls + (g - nx + 1 - cp)))]) ?_ rfl ⟨rfl, ?_⟩
      · simp [results, asAddr]; go_simp
      · (repeat (first | refine Below.setCell ?_ (by simp <;> omega) _ | refine Below.alloc ?_ (by simp <;> omega) _ | exact Below.refl _ _))
    · rw [if_neg hw]
      have k2 : decide (cp < g - nx + 1) = false := decide_eq_false (by omega)
      unfold Cur.val at *
      go_enter Try.func62, Try.ntmps62
      go_wp2_with fail
      refine (HW.out _).mono ?_; rintro e w' ⟨rfl, rfl⟩
      go_wp2_with fail
      trace "E3"
      (try simp only [Exit.inBlock, Exit.then])
      refine bodyPost_ret (v := .agg #[.int .u64 nx, .int .i64 cp, .int .u64 gt, .int .u64 ls]) ?_ rfl ⟨rfl, ?_⟩
      · simp [results, asAddr]; go_simp
      · (repeat (first | refine Below.setCell ?_ (by simp <;> omega) _ | refine Below.alloc ?_ (by simp <;> omega) _ | exact Below.refl _ _))

end Go.Proofs.Ythcaagkgddeabaa.Queue
namespace Go.Proofs.Ythcaagkgddeabaa.Queue
set_option linter.unusedVariables false
set_option linter.unusedSimpArgs false
open Go Go.RowKit Go.Proofs.Ythcaagkgddeabaa.Base Go.Deep

/-- the reference's subscriptions in memory: five cells each -/
structure RSubs (w : World) (v : Value) (n : Nat) (l : Nat → Sub) : Prop where
  form : ∃ A c, v = .slice A n c ∧ n ≤ maxLen ∧ (0 < n → ∃ b o, A = some ⟨b, o, none⟩ ∧ b < w.heap.size ∧ ∀ i : Nat, i < n →
    w.cell? ⟨b, o + i * 5, none⟩ = some (.int .i64 (l i).rank) ∧ w.cell? ⟨b, o + i * 5 + 1, none⟩ = some (.int .u64 (l i).cur.next) ∧
    w.cell? ⟨b, o + i * 5 + 2, none⟩ = some (.int .i64 (l i).cur.cap) ∧ w.cell? ⟨b, o + i * 5 + 3, none⟩ = some (.int .u64 (l i).cur.got) ∧ w.cell? ⟨b, o + i * 5 + 4, none⟩ = some (.int .u64 (l i).cur.lost))
  ok : ∀ i : Nat, i < n → (l i).Ok

set_option maxRecDepth 100000 in
set_option maxHeartbeats 8000000 in
theorem refPick_any (v : Value) (n : Nat) (l : Nat → Sub) (u : Value) (gs : List Int) (w : World) (hs : RSubs w v n l) (hi : Ints w .u64 u gs) (hg : ∀ x ∈ gs, 0 ≤ x ∧ x ≤ 18446744073709551615) :
    Calls Try.prog 61 #[v, u] w fun e w' => ∃ x er : Int, e = .returned (.tuple #[.int .i64 x, .int .i64 er]) ∧ PickIs n l gs x er ∧ Below w.heap.size w w' := by
  obtain ⟨A, c, rfl, hl, hf⟩ := hs.form
  obtain ⟨A2, c2, rfl, hl2, hf2⟩ := hi.form
  have HOK := Lib.hid hs.ok
  have HF := Lib.hid hf
  have hne := show gs ≠ [] ↔ 0 < gs.length from by cases gs <;> simp
  have HF2 := Lib.hid (fun h => hf2 (hne.2 h))
  have HG := Lib.hid (show ∀ i, i < gs.length → 0 ≤ nth gs i ∧ nth gs i ≤ 18446744073709551615 from fun i h => hg _ (nth_mem h))
  unfold maxLen at hl hl2
  clear hf hf2 hs hi hg hne
  obtain ⟨m, hm⟩ : ∃ m, m = gs.length := ⟨_, rfl⟩
  by_cases hnm : n = m
  · have HM := Lib.hid hm
    rw [← hm] at HF2 HG hl2
    simp only [← hm]
    clear hm
    subst hnm
    have e1 : ((n : Int) != (n : Int)) = false := by simp
    go_enter Try.func61, Try.ntmps61
    go_wp2_with fail
    go_loopw [6] (fun i wr => ∃ k : Nat, k ≤ n ∧ i = .int .i64 k ∧ (∀ j, j < k → (l j).cur.Right) ∧ Below w.heap.size w wr) (fun i _ => n - (intOf i).toNat)
    case atStart => exact ⟨0, by omega, rfl, fun j hj => absurd hj (by omega), Below.refl _ _⟩
    case round =>
      obtain ⟨k, hk, rfl, hrt, hbl⟩ := hrel
      have HRT := Lib.hid hrt
      have L1 := Lib.hid hbl
      clear hrt hbl
      by_cases hlt : k < n
      · obtain ⟨b, o, rfl, hb, hc⟩ := HF.out (by omega)
        obtain ⟨c0, c1, c2', c3, c4⟩ := hc k hlt
        clear hc
        have c1' := (L1.out.cell (p := ⟨b, o + k * 5 + 1, none⟩) hb).trans c1
        have c2'' := (L1.out.cell (p := ⟨b, o + k * 5 + 2, none⟩) hb).trans c2'
        have c3' := (L1.out.cell (p := ⟨b, o + k * 5 + 3, none⟩) hb).trans c3
        have c4' := (L1.out.cell (p := ⟨b, o + k * 5 + 4, none⟩) hb).trans c4
        clear c0 c1 c2' c3 c4
        have hi0 : (0 : Int) ≤ (k : Int) := by omega
        have hi1 : (k : Int) < (n : Int) := by omega
        have hd1 : decide ((k : Int) < (n : Int)) = true := decide_eq_true (by omega)
        go_wp2_with fail
        refine (refRight_any (l k).cur _).mono ?_; rintro e w2 ⟨rfl, hb2⟩
        have L2 := Lib.hid (bl L1.out hb2)
        clear hb2
        by_cases hr : (l k).cur.Right
        · rw [decide_eq_true hr]
          go_wp2_with fail
          go_roundw
          case rel => exact ⟨k + 1, by omega, by go_num, fun j hj => by
            by_cases e : j = k
            · subst e; exact hr
            · exact HRT.out j (by omega), L2.out⟩
          case measure => simp [intOf]; omega
        · rw [decide_eq_false hr]
          go_wp2_with fail
          go_ret2
          exact ⟨0, 1, rfl, .inr (.inl ⟨HM.out, ⟨k, hlt, hr⟩, rfl, rfl⟩), L2.out⟩
      · obtain rfl : k = n := by omega
        have hd1 : decide ((k : Int) < (k : Int)) = false := decide_eq_false (by omega)
        go_wp2_with fail
        go_loopw [7] (fun i wr => ∃ q : Nat, q ≤ k ∧ i = .int .i64 q ∧ (∀ j, j < q → Is (nth gs j)) ∧ Below w.heap.size w wr) (fun i _ => k - (intOf i).toNat)
        case atStart => exact ⟨0, by omega, rfl, fun j hj => absurd hj (by omega), L1.out⟩
        case round =>
          obtain ⟨q, hq, rfl, his, hbl⟩ := hrel
          have HIS := Lib.hid his
          have L2 := Lib.hid hbl
          clear his hbl
          by_cases hlt2 : q < k
          · obtain ⟨b2, o2, rfl, hb2, hc2⟩ := HF2.out (by omega)
            have g1 := (L2.out.cell (p := ⟨b2, o2 + q, none⟩) hb2).trans (hc2 q hlt2)
            clear hc2
            have hi0 : (0 : Int) ≤ (q : Int) := by omega
            have hi1 : (q : Int) < (k : Int) := by omega
            have hd2 : decide ((q : Int) < (k : Int)) = true := decide_eq_true (by omega)
            go_wp2_with fail
            refine (Is_any (nth gs q) _).mono ?_; rintro e w' ⟨rfl, rfl⟩
            by_cases h : nth gs q < 9223372036854775808
            · rw [decide_eq_true h]
              go_wp2_with fail
              go_roundw
              case rel => exact ⟨q + 1, by omega, by go_num, fun j hj => by
                by_cases e : j = q
                · subst e; exact h
                · exact HIS.out j (by omega), L2.out⟩
              case measure => simp [intOf]; omega
            · rw [decide_eq_false h]
              go_wp2_with fail
              go_ret2
              exact ⟨0, 10, rfl, .inr (.inr (.inl ⟨HM.out, HRT.out, ⟨q, hlt2, fun h' => absurd (show nth gs q < 9223372036854775808 from h') (by omega)⟩, rfl, rfl⟩)), L2.out⟩
          · obtain rfl : q = k := by omega
            have hd2 : decide ((q : Int) < (q : Int)) = false := decide_eq_false (by omega)
            go_wp2_with fail
            go_loopw [8, 9] (fun bs i wr => ∃ p : Nat, p ≤ q ∧ i = .int .i64 p ∧ bs = .int .i64 (best l gs p) ∧ Below w.heap.size w wr) (fun _ i _ => q - (intOf i).toNat)
            case atStart => exact ⟨0, by omega, rfl, rfl, L2.out⟩
            case round =>
              obtain ⟨p, hp, rfl, rfl, hbl⟩ := hrel
              have LZ := Lib.hid hbl
              clear hbl
              by_cases hlt3 : p < q
              · obtain ⟨wz, rfl⟩ : ∃ wz : World, wz = wr := ⟨_, rfl⟩
                obtain ⟨b, o, rfl, hb, hc⟩ := HF.out (by omega)
                obtain ⟨b2, o2, rfl, hb2, hc2⟩ := HF2.out (by omega)
                have HC := Lib.hid hc
                have HC2 := Lib.hid hc2
                clear hc hc2
                have hi0 : (0 : Int) ≤ (p : Int) := by omega
                have hi1 : (p : Int) < (q : Int) := by omega
                have hd3 : decide ((p : Int) < (q : Int)) = true := decide_eq_true hi1
                have hnonempty : Nonempty (Held (Below wz.heap.size wz)) := ⟨⟨wz, Below.refl _ _⟩⟩
                have pm0 : ∀ x : Held (Below wz.heap.size wz), x.w.cell? ⟨b, o + p * 5, none⟩ = some (.int .i64 (l p).rank) := fun x => ((bl LZ.out x.ok).cell (p := ⟨b, o + p * 5, none⟩) hb).trans (HC.out p hlt3).1
                have pm1 : ∀ x : Held (Below wz.heap.size wz), x.w.cell? ⟨b, o + p * 5 + 1, none⟩ = some (.int .u64 (l p).cur.next) := fun x => ((bl LZ.out x.ok).cell (p := ⟨b, o + p * 5 + 1, none⟩) hb).trans (HC.out p hlt3).2.1
                have pm2 : ∀ x : Held (Below wz.heap.size wz), x.w.cell? ⟨b, o + p * 5 + 2, none⟩ = some (.int .i64 (l p).cur.cap) := fun x => ((bl LZ.out x.ok).cell (p := ⟨b, o + p * 5 + 2, none⟩) hb).trans (HC.out p hlt3).2.2.1
                have pm3 : ∀ x : Held (Below wz.heap.size wz), x.w.cell? ⟨b, o + p * 5 + 3, none⟩ = some (.int .u64 (l p).cur.got) := fun x => ((bl LZ.out x.ok).cell (p := ⟨b, o + p * 5 + 3, none⟩) hb).trans (HC.out p hlt3).2.2.2.1
                have pm4 : ∀ x : Held (Below wz.heap.size wz), x.w.cell? ⟨b, o + p * 5 + 4, none⟩ = some (.int .u64 (l p).cur.lost) := fun x => ((bl LZ.out x.ok).cell (p := ⟨b, o + p * 5 + 4, none⟩) hb).trans (HC.out p hlt3).2.2.2.2
                have pg : ∀ x : Held (Below wz.heap.size wz), x.w.cell? ⟨b2, o2 + p, none⟩ = some (.int .u64 (nth gs p)) := fun x => ((bl LZ.out x.ok).cell (p := ⟨b2, o2 + p, none⟩) hb2).trans (HC2.out p hlt3)
                have hok := HOK.out p hlt3
                have hgp := HG.out p hlt3
                have hip := HIS.out p hlt3
                have hrp := HRT.out p hlt3
                have hWT := fun W => Waits_any (l p).cur (nth gs p) hok.cur.next.1 hgp.1 hip W
                unfold Cur.val at hWT
                have WC := Lib.hid (show ∀ W, Below wz.heap.size wz W → Calls Try.prog 76 #[.agg #[.int .u64 (l p).cur.next, .int .i64 (l p).cur.cap, .int .u64 (l p).cur.got, .int .u64 (l p).cur.lost], .int .u64 (nth gs p)] W fun e w' => e = .returned (.int .u64 (waits (l p).cur (nth gs p))) ∧ Below wz.heap.size wz w' from fun W hW => (hWT W).mono fun _ _ ⟨he, hb⟩ => ⟨he, hb ▸ hW.alloc hW.size _⟩)
                clear hWT
                have hstep := best_succ l gs p
                have hnx : (nth gs p < (seen (l p).cur (nth gs p)).next) ↔ nth gs p < (l p).cur.next := by
                  have hr1 := hrp.1.1
                  unfold seen
                  split
                  · rfl
                  · split
                    · simp only; constructor <;> intro <;> omega
                    · rfl
                have hbl := best_lt l gs p
                by_cases hlw : nth gs p < (l p).cur.next
                · rw [if_pos (hnx.2 hlw)] at hstep
                  have hw0 : waits (l p).cur (nth gs p) = 0 := by unfold waits; rw [if_pos hlw]
                  rw [hw0] at WC
                  have HSTEP := Lib.hid hstep
                  clear hstep hnx hbl hlw hw0 hrp hip
                  go_upto_region 17 with fail
                  refine drawn_held (S := Below wz.heap.size wz) (by kernel_rfl) (by kernel_rfl) (Below.refl _ _).drew ?_
                  repeat (go_big_quiet_step ((go_at_call 76; exact held_call WC.out)))
                  refine wpQuiet_nil ?_
                  intro w7 hw'; obtain ⟨⟨w7', hb7⟩, hw''⟩ := hw'; dsimp only at hw''; subst hw''
                  have L9 := Lib.hid (bl LZ.out hb7)
                  clear hb7 hnonempty pm0 pm1 pm2 pm3 pm4 pg
                  go_wp2_with fail
                  go_roundw
                  case rel => exact ⟨p + 1, by omega, by go_num, by rw [HSTEP.out], L9.out⟩
                  case measure => simp [intOf]; omega
                · rw [if_neg (fun h => hlw (hnx.1 h))] at hstep
                  have hw0 : 0 < waits (l p).cur (nth gs p) := by unfold waits; rw [if_neg hlw]; omega
                  generalize waits (l p).cur (nth gs p) = cn at *
                  have hcn : decide (0 < cn) = true := decide_eq_true hw0
                  by_cases hbn : best l gs p < 0
                  · rw [if_neg (by omega)] at hstep
                    have hd4 : decide (best l gs p < 0) = true := decide_eq_true hbn
                    have HSTEP := Lib.hid hstep
                    clear hstep hnx hbl hlw hw0 hrp hip
                    go_upto_region 17 with fail
                    refine drawn_held (S := Below wz.heap.size wz) (by kernel_rfl) (by kernel_rfl) (Below.refl _ _).drew ?_
                    repeat (go_big_quiet_step ((go_at_call 76; exact held_call WC.out)))
                    refine wpQuiet_nil ?_
                    intro w7 hw'; obtain ⟨⟨w7', hb7⟩, hw''⟩ := hw'; dsimp only at hw''; subst hw''
                    have L9 := Lib.hid (bl LZ.out hb7)
                    clear hb7 hnonempty pm0 pm1 pm2 pm3 pm4 pg
                    go_wp2_with fail
                    go_roundw
                    case rel => exact ⟨p + 1, by omega, by go_num, by rw [HSTEP.out], L9.out⟩
                    case measure => simp [intOf]; omega
                  · obtain ⟨B, hB⟩ : ∃ B : Nat, best l gs p = (B : Int) := ⟨(best l gs p).toNat, by omega⟩
                    rw [hB] at hstep hbl
                    rw [show ((B : Int)).toNat = B from rfl] at hstep
                    have hB1 : B < p := by omega
                    have Bm0 : ∀ x : Held (Below wz.heap.size wz), x.w.cell? ⟨b, o + B * 5, none⟩ = some (.int .i64 (l B).rank) := fun x => ((bl LZ.out x.ok).cell (p := ⟨b, o + B * 5, none⟩) hb).trans (HC.out B (by omega)).1
                    have hi2 : (0 : Int) ≤ (B : Int) := by omega
                    have hi3 : (B : Int) < (q : Int) := by omega
                    have hd4 : decide ((B : Int) < 0) = false := decide_eq_false (by omega)
                    rw [hB]
                    clear hB hbn
                    by_cases hrk : (l p).rank ≤ (l B).rank
                    · rw [if_pos ⟨hi2, hrk⟩] at hstep
                      have hd5 : decide ((l B).rank < (l p).rank) = false := decide_eq_false (by omega)
                      have HSTEP := Lib.hid hstep
                      clear hstep hnx hbl hlw hw0 hrp hip hrk
                      go_upto_region 17 with fail
                      refine drawn_held (S := Below wz.heap.size wz) (by kernel_rfl) (by kernel_rfl) (Below.refl _ _).drew ?_
                      repeat (go_big_quiet_step ((go_at_call 76; exact held_call WC.out)))
                      refine wpQuiet_nil ?_
                      intro w7 hw'; obtain ⟨⟨w7', hb7⟩, hw''⟩ := hw'; dsimp only at hw''; subst hw''
                      have L9 := Lib.hid (bl LZ.out hb7)
                      clear hb7 hnonempty pm0 pm1 pm2 pm3 pm4 pg Bm0
                      go_wp2_with fail
                      go_roundw
                      case rel => exact ⟨p + 1, by omega, by go_num, by rw [HSTEP.out], L9.out⟩
                      case measure => simp [intOf]; omega
                    · rw [if_neg (by omega)] at hstep
                      have hd5 : decide ((l B).rank < (l p).rank) = true := decide_eq_true (by omega)
                      have HSTEP := Lib.hid hstep
                      clear hstep hnx hbl hlw hw0 hrp hip hrk
                      go_upto_region 17 with fail
                      refine drawn_held (S := Below wz.heap.size wz) (by kernel_rfl) (by kernel_rfl) (Below.refl _ _).drew ?_
                      repeat (go_big_quiet_step ((go_at_call 76; exact held_call WC.out)))
                      refine wpQuiet_nil ?_
                      intro w7 hw'; obtain ⟨⟨w7', hb7⟩, hw''⟩ := hw'; dsimp only at hw''; subst hw''
                      have L9 := Lib.hid (bl LZ.out hb7)
                      clear hb7 hnonempty pm0 pm1 pm2 pm3 pm4 pg Bm0
                      go_wp2_with fail
                      go_roundw
                      case rel => exact ⟨p + 1, by omega, by go_num, by rw [HSTEP.out], L9.out⟩
                      case measure => simp [intOf]; omega
              · obtain rfl : p = q := by omega
                have hd3 : decide ((p : Int) < (p : Int)) = false := decide_eq_false (by omega)
                have HYES := Lib.hid (show PickIs p l gs (best l gs p) 0 from .inr (.inr (.inr ⟨HM.out, HRT.out, HIS.out, rfl, rfl⟩)))
                go_wp2_with fail
                go_ret2
                exact ⟨best l gs p, 0, rfl, HYES.out, LZ.out⟩
  · have e1 : ((n : Int) != (m : Int)) = true := by simp; omega
    have HM := Lib.hid hm
    simp only [← hm]
    clear hm
    go_enter Try.func61, Try.ntmps61
    go_wp2_with fail
    go_ret2
    exact ⟨0, 1, rfl, .inl ⟨by rw [← HM.out]; exact hnm, rfl, rfl⟩, Below.refl _ _⟩
end Go.Proofs.Ythcaagkgddeabaa.Queue
