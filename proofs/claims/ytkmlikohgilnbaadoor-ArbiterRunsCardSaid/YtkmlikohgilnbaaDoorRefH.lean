/-
  Reg: the walks through the reference: Health, Decide. Conditions stand at each. By an AI agent.
-/
import Derived.Test.YtkmlikohgilnbaaDoorRefG
namespace Go.Proofs.YtkmlikohgilnbaaDoor.Reg
set_option linter.unusedVariables false
set_option linter.unusedSimpArgs false
open Go Go.RowKit Go.Proofs.YtkmlikohgilnbaaDoor.Base Go.Proofs.YtkmlikohgilnbaaDoor.Modes Go.Deep

theorem has_bits : ∀ f n : Fin 64, hasF 6 (f.val : Int) (n.val : Int) = (bits .and .i64 (f.val : Int) (n.val : Int) == (n.val : Int)) ∧ noneF 6 (f.val : Int) (n.val : Int) = (bits .and .i64 (f.val : Int) (n.val : Int) == 0) := by decide +kernel
theorem has_bits' {f n : Int} (hf : 0 ≤ f ∧ f ≤ 63) (hn : 0 ≤ n ∧ n ≤ 63) : hasF 6 f n = (bits .and .i64 f n == n) ∧ noneF 6 f n = (bits .and .i64 f n == 0) := by
  obtain ⟨f, rfl⟩ := Int.eq_ofNat_of_zero_le hf.1
  obtain ⟨n, rfl⟩ := Int.eq_ofNat_of_zero_le hn.1
  exact has_bits ⟨f, by omega⟩ ⟨n, by omega⟩
theorem need_range_in : ∀ i j : Fin 8, (0 ≤ needZ i.val j.val ∧ needZ i.val j.val ≤ 63) ∧ (0 ≤ notZ i.val j.val ∧ notZ i.val j.val ≤ 63) := by decide +kernel
theorem need_range (a b : Int) : (0 ≤ needZ a b ∧ needZ a b ≤ 63) ∧ (0 ≤ notZ a b ∧ notZ a b ≤ 63) := by
  by_cases hr : 0 ≤ a ∧ a < 8 ∧ 0 ≤ b ∧ b < 8
  · obtain ⟨a0, a1, b0, b1⟩ := hr
    obtain ⟨i, rfl⟩ := Int.eq_ofNat_of_zero_le a0
    obtain ⟨j, rfl⟩ := Int.eq_ofNat_of_zero_le b0
    exact need_range_in ⟨i, by omega⟩ ⟨j, by omega⟩
  · have hz : wayZ a b = 0 := wayZ_out hr
    unfold needZ notZ
    rw [hz]
    decide +kernel
theorem guard_has {s : St} {a : Ask} (hf : 0 ≤ s.flags ∧ s.flags ≤ 63) : guardB s a = (hasF 6 s.flags (needZ s.mode a.mode) && noneF 6 s.flags (notZ s.mode a.mode)) := by
  obtain ⟨h1, h2⟩ := need_range s.mode a.mode
  rw [(has_bits' hf h1).1, (has_bits' hf h2).2]
  rfl
/-- what Find tells, as the code's table has it -/
theorem Find_yes (a b : Int) (h : wayB a b = true) (w : World) : ∃ x y : Int, Calls Tryd.prog 68 #[.int .i64 a, .int .i64 b] w fun e w' => e = .returned (.tuple #[.agg #[.int .i64 x, .int .i64 y, .int .i64 (needZ a b), .int .i64 (notZ a b)], .bool true]) ∧ Below w.heap.size w w' := by
  obtain ⟨h1, h2, _⟩ := find_way a b
  rw [h] at h1
  obtain ⟨k, hk⟩ := Option.isSome_iff_exists.1 h1.symm
  obtain ⟨e1, e2⟩ := h2 k hk
  have := Find_any a b w
  unfold findV at this
  rw [hk] at this
  simp only at this
  rw [← e1, ← e2] at this
  exact ⟨_, _, this⟩
theorem Find_no (a b : Int) (h : wayB a b = false) (w : World) : Calls Tryd.prog 68 #[.int .i64 a, .int .i64 b] w fun e w' => e = .returned (.tuple #[.agg #[.int .i64 0, .int .i64 0, .int .i64 0, .int .i64 0], .bool false]) ∧ Below w.heap.size w w' := by
  obtain ⟨h1, _, _⟩ := find_way a b
  rw [h] at h1
  have hk : findF a b = none := by
    cases hh : findF a b with
    | none => rfl
    | some k => rw [hh] at h1; cases h1
  have := Find_any a b w
  unfold findV at this
  rw [hk] at this
  exact this

theorem refhealth_ways (s : St) (f : Int) : (rightB s = false ∧ healthE s f = 1) ∨ (rightB s = true ∧ s.epoch < 4503599627370496 ∧ decide (f < 0) = true ∧ healthE s f = 10) ∨ (rightB s = true ∧ s.epoch < 4503599627370496 ∧ decide (f < 0) = false ∧ decide (63 < f) = true ∧ healthE s f = 10) ∨
    (rightB s = true ∧ s.epoch < 4503599627370496 ∧ decide (f < 0) = false ∧ decide (63 < f) = false ∧ (s.epoch == 4503599627370495) = true ∧ healthE s f = 16) ∨ (rightB s = true ∧ s.epoch < 4503599627370496 ∧ decide (f < 0) = false ∧ decide (63 < f) = false ∧ (s.epoch == 4503599627370495) = false ∧ healthE s f = 0) := by
  unfold rightB healthE lastE
  by_cases h1 : mayE s = 0
  · right
    have hep := (mayE_zero.1 h1).1.2.2.2
    rw [if_neg (by simpa using h1)]
    by_cases h2 : f < 0
    · left; rw [if_pos (by omega)]; exact ⟨decide_eq_true h1, hep, decide_eq_true h2, rfl⟩
    · by_cases h3 : 63 < f
      · right; left; rw [if_pos (by omega)]; exact ⟨decide_eq_true h1, hep, decide_eq_false h2, decide_eq_true h3, rfl⟩
      · rw [if_neg (by omega)]
        by_cases h4 : s.epoch = 4503599627370495
        · right; right; left; rw [if_pos h4]; exact ⟨decide_eq_true h1, hep, decide_eq_false h2, decide_eq_false h3, by simpa using h4, rfl⟩
        · right; right; right; rw [if_neg h4]; exact ⟨decide_eq_true h1, hep, decide_eq_false h2, decide_eq_false h3, by simpa using h4, rfl⟩
  · left
    rw [if_pos h1]
    exact ⟨decide_eq_false h1, rfl⟩
set_option maxRecDepth 100000 in
set_option maxHeartbeats 8000000 in
theorem refHealth_any (s : St) (h : s.Ok) (f : Int) (w : World) : Calls Tryd.prog 62 #[s.val, .int .i64 f] w fun e w' => e = .returned (.tuple #[(healthS s f).val, .int .i64 (healthE s f)]) ∧ Below w.heap.size w w' := by
  have HM := Lib.hid (Right_any s h)
  have HW := refhealth_ways s f
  obtain ⟨e0, e1⟩ := h.epoch
  obtain ⟨m, so, ho, fl, ep⟩ := s
  generalize partsB ⟨m, so, ho, fl, ep⟩ = pb at *
  unfold healthS
  unfold St.val at *
  simp only at *
  rcases HW with ⟨q0, hE⟩ | ⟨q0, qe, q1, hE⟩ | ⟨q0, qe, q1, q2, hE⟩ | ⟨q0, qe, q1, q2, q3, hE⟩ | ⟨q0, qe, q1, q2, q3, hE⟩
  · rw [hE, if_neg (by decide)]
    rw [q0] at HM
    clear q0 hE h
    go_enter Tryd.func62, Tryd.ntmps62
    go_wp2_with fail
    refine (HM.out _).mono ?_; rintro e w1 ⟨rfl, hb⟩
    have hbx : Blk w1 w.heap.size 34 _ := ((Blk.new w 34 #[.int .i64 m, .int .i64 so, .bool ho, .int .i64 fl, .int .u64 ep]).alloc _).bl hb
    have hbz : Blk w1 (w.heap.size + 1) 34 _ := (blk_new' (w.alloc (.cells #[.int .i64 m, .int .i64 so, .bool ho, .int .i64 fl, .int .u64 ep] 34)) (g := w.heap.size + 1) (by simp) 34 #[.int .i64 0, .int .i64 0, .bool false, .int .i64 0, .int .u64 0]).bl hb
    have HB := Lib.hid ((((Below.refl w.heap.size w).alloc (Nat.le_refl _) (.cells #[.int .i64 m, .int .i64 so, .bool ho, .int .i64 fl, .int .u64 ep] 34)).alloc (by simp) (.cells #[.int .i64 0, .int .i64 0, .bool false, .int .i64 0, .int .u64 0] 34)).trans (hb.mono (by simp; omega)))
    clear hb
    have k0 := hbx.cell 0
    have k1 := hbx.cell 1
    have k2 := hbx.cell 2
    have k3 := hbx.cell 3
    have k4 := hbx.cell 4
    simp only [List.getElem?_toArray, List.getElem?_cons_succ, List.getElem?_cons_zero] at k0 k1 k2 k3 k4
    have z0 := hbz.cell 0
    have z1 := hbz.cell 1
    have z2 := hbz.cell 2
    have z3 := hbz.cell 3
    have z4 := hbz.cell 4
    simp only [List.getElem?_toArray, List.getElem?_cons_succ, List.getElem?_cons_zero] at z0 z1 z2 z3 z4
    have f0 := hbz.frozen 0
    have f1 := hbz.frozen 1
    have f2 := hbz.frozen 2
    have f3 := hbz.frozen 3
    have f4 := hbz.frozen 4
    clear hbx hbz
    go_wp2_with fail
    (try simp only [Exit.inBlock, Exit.then])
    refine bodyPost_ret (v := .tuple #[.agg #[.int .i64 0, .int .i64 0, .bool false, .int .i64 0, .int .u64 0], .int .i64 1]) ?_ rfl ⟨rfl, below_set5 HB.out (by omega)⟩
    rw [results_cell_tmp rfl]; go_simp
  · rw [hE, if_neg (by decide)]
    rw [q0] at HM
    clear q0 hE h
    go_enter Tryd.func62, Tryd.ntmps62
    go_wp2_with fail
    refine (HM.out _).mono ?_; rintro e w1 ⟨rfl, hb⟩
    have hbx : Blk w1 w.heap.size 34 _ := ((Blk.new w 34 #[.int .i64 m, .int .i64 so, .bool ho, .int .i64 fl, .int .u64 ep]).alloc _).bl hb
    have hbz : Blk w1 (w.heap.size + 1) 34 _ := (blk_new' (w.alloc (.cells #[.int .i64 m, .int .i64 so, .bool ho, .int .i64 fl, .int .u64 ep] 34)) (g := w.heap.size + 1) (by simp) 34 #[.int .i64 0, .int .i64 0, .bool false, .int .i64 0, .int .u64 0]).bl hb
    have HB := Lib.hid ((((Below.refl w.heap.size w).alloc (Nat.le_refl _) (.cells #[.int .i64 m, .int .i64 so, .bool ho, .int .i64 fl, .int .u64 ep] 34)).alloc (by simp) (.cells #[.int .i64 0, .int .i64 0, .bool false, .int .i64 0, .int .u64 0] 34)).trans (hb.mono (by simp; omega)))
    clear hb
    have k0 := hbx.cell 0
    have k1 := hbx.cell 1
    have k2 := hbx.cell 2
    have k3 := hbx.cell 3
    have k4 := hbx.cell 4
    simp only [List.getElem?_toArray, List.getElem?_cons_succ, List.getElem?_cons_zero] at k0 k1 k2 k3 k4
    have z0 := hbz.cell 0
    have z1 := hbz.cell 1
    have z2 := hbz.cell 2
    have z3 := hbz.cell 3
    have z4 := hbz.cell 4
    simp only [List.getElem?_toArray, List.getElem?_cons_succ, List.getElem?_cons_zero] at z0 z1 z2 z3 z4
    have f0 := hbz.frozen 0
    have f1 := hbz.frozen 1
    have f2 := hbz.frozen 2
    have f3 := hbz.frozen 3
    have f4 := hbz.frozen 4
    clear hbx hbz
    go_wp2_with fail
    (try simp only [Exit.inBlock, Exit.then])
    refine bodyPost_ret (v := .tuple #[.agg #[.int .i64 0, .int .i64 0, .bool false, .int .i64 0, .int .u64 0], .int .i64 10]) ?_ rfl ⟨rfl, below_set5 HB.out (by omega)⟩
    rw [results_cell_tmp rfl]; go_simp
  · rw [hE, if_neg (by decide)]
    rw [q0] at HM
    clear q0 hE h
    go_enter Tryd.func62, Tryd.ntmps62
    go_wp2_with fail
    refine (HM.out _).mono ?_; rintro e w1 ⟨rfl, hb⟩
    have hbx : Blk w1 w.heap.size 34 _ := ((Blk.new w 34 #[.int .i64 m, .int .i64 so, .bool ho, .int .i64 fl, .int .u64 ep]).alloc _).bl hb
    have hbz : Blk w1 (w.heap.size + 1) 34 _ := (blk_new' (w.alloc (.cells #[.int .i64 m, .int .i64 so, .bool ho, .int .i64 fl, .int .u64 ep] 34)) (g := w.heap.size + 1) (by simp) 34 #[.int .i64 0, .int .i64 0, .bool false, .int .i64 0, .int .u64 0]).bl hb
    have HB := Lib.hid ((((Below.refl w.heap.size w).alloc (Nat.le_refl _) (.cells #[.int .i64 m, .int .i64 so, .bool ho, .int .i64 fl, .int .u64 ep] 34)).alloc (by simp) (.cells #[.int .i64 0, .int .i64 0, .bool false, .int .i64 0, .int .u64 0] 34)).trans (hb.mono (by simp; omega)))
    clear hb
    have k0 := hbx.cell 0
    have k1 := hbx.cell 1
    have k2 := hbx.cell 2
    have k3 := hbx.cell 3
    have k4 := hbx.cell 4
    simp only [List.getElem?_toArray, List.getElem?_cons_succ, List.getElem?_cons_zero] at k0 k1 k2 k3 k4
    have z0 := hbz.cell 0
    have z1 := hbz.cell 1
    have z2 := hbz.cell 2
    have z3 := hbz.cell 3
    have z4 := hbz.cell 4
    simp only [List.getElem?_toArray, List.getElem?_cons_succ, List.getElem?_cons_zero] at z0 z1 z2 z3 z4
    have f0 := hbz.frozen 0
    have f1 := hbz.frozen 1
    have f2 := hbz.frozen 2
    have f3 := hbz.frozen 3
    have f4 := hbz.frozen 4
    clear hbx hbz
    go_wp2_with fail
    (try simp only [Exit.inBlock, Exit.then])
    refine bodyPost_ret (v := .tuple #[.agg #[.int .i64 0, .int .i64 0, .bool false, .int .i64 0, .int .u64 0], .int .i64 10]) ?_ rfl ⟨rfl, below_set5 HB.out (by omega)⟩
    rw [results_cell_tmp rfl]; go_simp
  · rw [hE, if_neg (by decide)]
    rw [q0] at HM
    clear q0 hE h
    go_enter Tryd.func62, Tryd.ntmps62
    go_wp2_with fail
    refine (HM.out _).mono ?_; rintro e w1 ⟨rfl, hb⟩
    have hbx : Blk w1 w.heap.size 34 _ := ((Blk.new w 34 #[.int .i64 m, .int .i64 so, .bool ho, .int .i64 fl, .int .u64 ep]).alloc _).bl hb
    have hbz : Blk w1 (w.heap.size + 1) 34 _ := (blk_new' (w.alloc (.cells #[.int .i64 m, .int .i64 so, .bool ho, .int .i64 fl, .int .u64 ep] 34)) (g := w.heap.size + 1) (by simp) 34 #[.int .i64 0, .int .i64 0, .bool false, .int .i64 0, .int .u64 0]).bl hb
    have HB := Lib.hid ((((Below.refl w.heap.size w).alloc (Nat.le_refl _) (.cells #[.int .i64 m, .int .i64 so, .bool ho, .int .i64 fl, .int .u64 ep] 34)).alloc (by simp) (.cells #[.int .i64 0, .int .i64 0, .bool false, .int .i64 0, .int .u64 0] 34)).trans (hb.mono (by simp; omega)))
    clear hb
    have k0 := hbx.cell 0
    have k1 := hbx.cell 1
    have k2 := hbx.cell 2
    have k3 := hbx.cell 3
    have k4 := hbx.cell 4
    simp only [List.getElem?_toArray, List.getElem?_cons_succ, List.getElem?_cons_zero] at k0 k1 k2 k3 k4
    have z0 := hbz.cell 0
    have z1 := hbz.cell 1
    have z2 := hbz.cell 2
    have z3 := hbz.cell 3
    have z4 := hbz.cell 4
    simp only [List.getElem?_toArray, List.getElem?_cons_succ, List.getElem?_cons_zero] at z0 z1 z2 z3 z4
    have f0 := hbz.frozen 0
    have f1 := hbz.frozen 1
    have f2 := hbz.frozen 2
    have f3 := hbz.frozen 3
    have f4 := hbz.frozen 4
    clear hbx hbz
    go_wp2_with fail
    (try simp only [Exit.inBlock, Exit.then])
    refine bodyPost_ret (v := .tuple #[.agg #[.int .i64 0, .int .i64 0, .bool false, .int .i64 0, .int .u64 0], .int .i64 16]) ?_ rfl ⟨rfl, below_set5 HB.out (by omega)⟩
    rw [results_cell_tmp rfl]; go_simp
  · rw [hE, if_pos rfl]
    rw [q0] at HM
    clear q0 hE h
    go_enter Tryd.func62, Tryd.ntmps62
    go_wp2_with fail
    refine (HM.out _).mono ?_; rintro e w1 ⟨rfl, hb⟩
    have hbx : Blk w1 w.heap.size 34 _ := ((Blk.new w 34 #[.int .i64 m, .int .i64 so, .bool ho, .int .i64 fl, .int .u64 ep]).alloc _).bl hb
    have hbz : Blk w1 (w.heap.size + 1) 34 _ := (blk_new' (w.alloc (.cells #[.int .i64 m, .int .i64 so, .bool ho, .int .i64 fl, .int .u64 ep] 34)) (g := w.heap.size + 1) (by simp) 34 #[.int .i64 0, .int .i64 0, .bool false, .int .i64 0, .int .u64 0]).bl hb
    have HB := Lib.hid ((((Below.refl w.heap.size w).alloc (Nat.le_refl _) (.cells #[.int .i64 m, .int .i64 so, .bool ho, .int .i64 fl, .int .u64 ep] 34)).alloc (by simp) (.cells #[.int .i64 0, .int .i64 0, .bool false, .int .i64 0, .int .u64 0] 34)).trans (hb.mono (by simp; omega)))
    clear hb
    have k0 := hbx.cell 0
    have k1 := hbx.cell 1
    have k2 := hbx.cell 2
    have k3 := hbx.cell 3
    have k4 := hbx.cell 4
    simp only [List.getElem?_toArray, List.getElem?_cons_succ, List.getElem?_cons_zero] at k0 k1 k2 k3 k4
    have z0 := hbz.cell 0
    have z1 := hbz.cell 1
    have z2 := hbz.cell 2
    have z3 := hbz.cell 3
    have z4 := hbz.cell 4
    simp only [List.getElem?_toArray, List.getElem?_cons_succ, List.getElem?_cons_zero] at z0 z1 z2 z3 z4
    have f0 := hbz.frozen 0
    have f1 := hbz.frozen 1
    have f2 := hbz.frozen 2
    have f3 := hbz.frozen 3
    have f4 := hbz.frozen 4
    clear hbx hbz
    go_wp2_with fail
    (try simp only [Exit.inBlock, Exit.then])
    refine bodyPost_ret (v := .tuple #[.agg #[.int .i64 m, .int .i64 so, .bool ho, .int .i64 f, .int .u64 (ep + 1)], .int .i64 0]) ?_ rfl ⟨rfl, below_set5 HB.out (by omega)⟩
    rw [results_cell_tmp rfl]; go_simp

theorem refdecide_ways (s : St) (a : Ask) : (rightB s = false ∧ decideE s a = 1) ∨ (rightB s = true ∧ s.Parts ∧ (
    ((decide (a.source < 0) = true ∨ decide (a.source < 0) = false ∧ decide (3 < a.source) = true ∨ decide (a.source < 0) = false ∧ decide (3 < a.source) = false ∧ decide (a.mode < 0) = true ∨ decide (a.source < 0) = false ∧ decide (3 < a.source) = false ∧ decide (a.mode < 0) = false ∧ decide (7 < a.mode) = true) ∧ decideE s a = 10) ∨
    (decide (a.source < 0) = false ∧ decide (3 < a.source) = false ∧ decide (a.mode < 0) = false ∧ decide (7 < a.mode) = false ∧ (
      (s.hold = true ∧ (a.source != 3) = true ∧ decideE s a = 23) ∨
      ((s.hold = true ∧ (a.source != 3) = false ∨ s.hold = false) ∧ (
        (decide (a.source < s.source) = true ∧ (s.mode != 0) = true ∧ decideE s a = 24) ∨
        ((decide (a.source < s.source) = true ∧ (s.mode != 0) = false ∨ decide (a.source < s.source) = false) ∧ (
          (wayB s.mode a.mode = false ∧ decideE s a = 21) ∨
          (wayB s.mode a.mode = true ∧ (
            ((hasF 6 s.flags (needZ s.mode a.mode) = false ∨ hasF 6 s.flags (needZ s.mode a.mode) = true ∧ noneF 6 s.flags (notZ s.mode a.mode) = false) ∧ decideE s a = 22) ∨
            (hasF 6 s.flags (needZ s.mode a.mode) = true ∧ noneF 6 s.flags (notZ s.mode a.mode) = true ∧ (
              ((s.epoch == 4503599627370495) = true ∧ decideE s a = 16) ∨ ((s.epoch == 4503599627370495) = false ∧ decideE s a = 0))))))))))))) := by
  unfold rightB decideE lastE
  by_cases h1 : mayE s = 0
  · right
    have hp := (mayE_zero.1 h1).1
    rw [if_neg (by simpa using h1), guard_has hp.2.2.1]
    refine ⟨decide_eq_true h1, hp, ?_⟩
    by_cases h2 : a.In
    · right
      have h2' := h2
      obtain ⟨⟨a0, a1⟩, ⟨b0, b1⟩⟩ := h2'
      rw [if_neg (by simpa using h2)]
      refine ⟨decide_eq_false (by omega), decide_eq_false (by omega), decide_eq_false (by omega), decide_eq_false (by omega), ?_⟩
      by_cases h3 : s.hold = true ∧ a.source ≠ 3
      · left; rw [if_pos h3]; exact ⟨h3.1, by simpa using h3.2, rfl⟩
      · right
        rw [if_neg h3]
        refine ⟨?_, ?_⟩
        · by_cases k : s.hold = true
          · left; exact ⟨k, by by_cases q : a.source = 3; simp [q]; exact absurd ⟨k, q⟩ h3⟩
          · right; simpa using k
        by_cases h4 : a.source < s.source ∧ s.mode ≠ 0
        · left; rw [if_pos h4]; exact ⟨decide_eq_true h4.1, by simpa using h4.2, rfl⟩
        · right
          rw [if_neg h4]
          refine ⟨?_, ?_⟩
          · by_cases k : a.source < s.source
            · left; exact ⟨decide_eq_true k, by by_cases q : s.mode = 0; simp [q]; exact absurd ⟨k, q⟩ h4⟩
            · right; exact decide_eq_false k
          by_cases h5 : wayB s.mode a.mode = false
          · left; rw [if_pos h5]; exact ⟨h5, rfl⟩
          · right
            rw [if_neg h5]
            refine ⟨by simpa using h5, ?_⟩
            cases h6 : hasF 6 s.flags (needZ s.mode a.mode)
            · left; exact ⟨.inl rfl, rfl⟩
            · cases h7 : noneF 6 s.flags (notZ s.mode a.mode)
              · left; exact ⟨.inr ⟨rfl, rfl⟩, rfl⟩
              · right
                refine ⟨rfl, rfl, ?_⟩
                rw [if_neg (by decide)]
                by_cases h8 : s.epoch = 4503599627370495
                · left; rw [if_pos h8]; exact ⟨by simpa using h8, rfl⟩
                · right; rw [if_neg h8]; exact ⟨by simpa using h8, rfl⟩
    · left
      rw [if_pos h2]
      refine ⟨?_, rfl⟩
      unfold Ask.In at h2
      by_cases q0 : a.source < 0
      · exact .inl (decide_eq_true q0)
      · by_cases q1 : 3 < a.source
        · exact .inr (.inl ⟨decide_eq_false q0, decide_eq_true q1⟩)
        · by_cases q2 : a.mode < 0
          · exact .inr (.inr (.inl ⟨decide_eq_false q0, decide_eq_false q1, decide_eq_true q2⟩))
          · exact .inr (.inr (.inr ⟨decide_eq_false q0, decide_eq_false q1, decide_eq_false q2, decide_eq_true (by omega)⟩))
  · left
    rw [if_pos h1]
    exact ⟨decide_eq_false h1, rfl⟩
end Go.Proofs.YtkmlikohgilnbaaDoor.Reg
