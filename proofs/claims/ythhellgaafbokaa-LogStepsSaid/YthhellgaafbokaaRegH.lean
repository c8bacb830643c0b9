/-
  Reg: the walk through Health. Conditions stand at each. By an AI agent.
-/
import Derived.Test.YthhellgaafbokaaRegU
namespace Go.Proofs.Ythhellgaafbokaa.Reg
set_option linter.unusedVariables false
set_option linter.unusedSimpArgs false
open Go Go.RowKit Go.Proofs.Ythhellgaafbokaa.Base Go.Proofs.Ythhellgaafbokaa.Modes Go.Deep

theorem health_ways (s : St) (f : Int) : (mayE s ≠ 0 ∧ healthE s f = 1) ∨ (mayE s = 0 ∧ inB f 0 64 = false ∧ healthE s f = 10) ∨ (mayE s = 0 ∧ inB f 0 64 = true ∧ (s.epoch == 4503599627370495) = true ∧ healthE s f = 16) ∨
    (mayE s = 0 ∧ inB f 0 64 = true ∧ (s.epoch == 4503599627370495) = false ∧ healthE s f = 0) := by
  unfold healthE lastE
  by_cases h1 : mayE s = 0
  · right
    rw [if_neg (by simpa using h1)]
    by_cases h2 : 0 ≤ f ∧ f ≤ 63
    · right
      have hb : inB f 0 64 = true := decide_eq_true (by omega)
      rw [if_neg (by simpa using h2)]
      by_cases h3 : s.epoch = 4503599627370495
      · left; rw [if_pos h3]; exact ⟨h1, hb, by simpa using h3, rfl⟩
      · right; rw [if_neg h3]; exact ⟨h1, hb, by simpa using h3, rfl⟩
    · left
      rw [if_pos h2]
      exact ⟨h1, decide_eq_false (by omega), rfl⟩
  · left
    rw [if_pos h1]
    exact ⟨h1, rfl⟩
set_option maxRecDepth 100000 in
set_option maxHeartbeats 8000000 in
theorem Health_any (s : St) (h : s.Ok) (f : Int) (w : World) : Calls Try.prog 31 #[s.val, .int .i64 f] w fun e w' => e = .returned (.tuple #[(healthS s f).val, .int .i64 (healthE s f)]) ∧ Below w.heap.size w w' := by
  have HM := Lib.hid (may_any s h)
  have HW := Lib.hid (health_ways s f)
  unfold healthS
  obtain ⟨e0, e1⟩ := h.epoch
  obtain ⟨m, so, ho, fl, ep⟩ := s
  unfold St.val at *
  simp only at *
  rcases HW.out with ⟨q0, hE⟩ | ⟨q0, q1, hE⟩ | ⟨q0, q1, q2, hE⟩ | ⟨q0, q1, q2, hE⟩
  · rw [hE]
    have q3 : (mayE ⟨m, so, ho, fl, ep⟩ != 0) = true := by simpa using q0
    generalize mayE ⟨m, so, ho, fl, ep⟩ = er at *
    clear q0 HW hE
    rw [if_neg (by decide)]
    go_enter Try.func31, Try.ntmps31
    go_wp2_with fail
    refine (HM.out _).mono ?_; rintro e w1 ⟨rfl, hb⟩
    have hbx : Blk w1 w.heap.size 28 _ := ((Blk.new w 28 #[.int .i64 m, .int .i64 so, .bool ho, .int .i64 fl, .int .u64 ep]).alloc _).bl hb
    have hbz : Blk w1 (w.heap.size + 1) 28 _ := (blk_new' (w.alloc (.cells #[.int .i64 m, .int .i64 so, .bool ho, .int .i64 fl, .int .u64 ep] 28)) (g := w.heap.size + 1) (by simp) 28 #[.int .i64 0, .int .i64 0, .bool false, .int .i64 0, .int .u64 0]).bl hb
    have HB := Lib.hid ((((Below.refl w.heap.size w).alloc (Nat.le_refl _) (.cells #[.int .i64 m, .int .i64 so, .bool ho, .int .i64 fl, .int .u64 ep] 28)).alloc (by simp) (.cells #[.int .i64 0, .int .i64 0, .bool false, .int .i64 0, .int .u64 0] 28)).trans (hb.mono (by simp; omega)))
    clear hb
    have k0 := hbx.cell 0
    have k1 := hbx.cell 1
    have k2 := hbx.cell 2
    have k3 := hbx.cell 3
    have k4 := hbx.cell 4
    simp only [List.getElem?_toArray, List.getElem?_cons_succ, List.getElem?_cons_zero] at k0 k1 k2 k3 k4
    have z0 := hbz.cell 0
    have z1 := hbz.cell 1
    have z2 := hbz.cell 2
    have z3 := hbz.cell 3
    have z4 := hbz.cell 4
    simp only [List.getElem?_toArray, List.getElem?_cons_succ, List.getElem?_cons_zero] at z0 z1 z2 z3 z4
    have f0 := hbz.frozen 0
    have g0 := hbx.frozen 0
    have f1 := hbz.frozen 1
    have g1 := hbx.frozen 1
    have f2 := hbz.frozen 2
    have g2 := hbx.frozen 2
    have f3 := hbz.frozen 3
    have g3 := hbx.frozen 3
    have f4 := hbz.frozen 4
    have g4 := hbx.frozen 4
    have HX := Lib.hid hbx
    have HZ := Lib.hid hbz
    clear hbx hbz
    go_wp2_with fail
    (try simp only [Exit.inBlock, Exit.then])
    refine bodyPost_ret (v := .tuple #[.agg #[.int .i64 0, .int .i64 0, .bool false, .int .i64 0, .int .u64 0], .int .i64 1]) ?_ rfl ⟨rfl, below_set5 HB.out (by omega)⟩
    rw [results_cell_tmp rfl]; go_simp
  · rw [hE]
    have hp := (mayE_zero.1 q0).1.2.2.2
    rw [q0] at HM
    clear q0 HW hE h
    simp only at hp
    rw [if_neg (by decide)]
    go_enter Try.func31, Try.ntmps31
    go_wp2_with fail
    refine (HM.out _).mono ?_; rintro e w1 ⟨rfl, hb⟩
    have hbx : Blk w1 w.heap.size 28 _ := ((Blk.new w 28 #[.int .i64 m, .int .i64 so, .bool ho, .int .i64 fl, .int .u64 ep]).alloc _).bl hb
    have hbz : Blk w1 (w.heap.size + 1) 28 _ := (blk_new' (w.alloc (.cells #[.int .i64 m, .int .i64 so, .bool ho, .int .i64 fl, .int .u64 ep] 28)) (g := w.heap.size + 1) (by simp) 28 #[.int .i64 0, .int .i64 0, .bool false, .int .i64 0, .int .u64 0]).bl hb
    have HB := Lib.hid ((((Below.refl w.heap.size w).alloc (Nat.le_refl _) (.cells #[.int .i64 m, .int .i64 so, .bool ho, .int .i64 fl, .int .u64 ep] 28)).alloc (by simp) (.cells #[.int .i64 0, .int .i64 0, .bool false, .int .i64 0, .int .u64 0] 28)).trans (hb.mono (by simp; omega)))
    clear hb
    have k0 := hbx.cell 0
    have k1 := hbx.cell 1
    have k2 := hbx.cell 2
    have k3 := hbx.cell 3
    have k4 := hbx.cell 4
    simp only [List.getElem?_toArray, List.getElem?_cons_succ, List.getElem?_cons_zero] at k0 k1 k2 k3 k4
    have z0 := hbz.cell 0
    have z1 := hbz.cell 1
    have z2 := hbz.cell 2
    have z3 := hbz.cell 3
    have z4 := hbz.cell 4
    simp only [List.getElem?_toArray, List.getElem?_cons_succ, List.getElem?_cons_zero] at z0 z1 z2 z3 z4
    have f0 := hbz.frozen 0
    have g0 := hbx.frozen 0
    have f1 := hbz.frozen 1
    have g1 := hbx.frozen 1
    have f2 := hbz.frozen 2
    have g2 := hbx.frozen 2
    have f3 := hbz.frozen 3
    have g3 := hbx.frozen 3
    have f4 := hbz.frozen 4
    have g4 := hbx.frozen 4
    have HX := Lib.hid hbx
    have HZ := Lib.hid hbz
    clear hbx hbz
    go_wp2_with (go_at_call 48; refine (health_any _ _).mono ?_; rintro e w' ⟨rfl, rfl⟩)
    (try simp only [Exit.inBlock, Exit.then])
    refine bodyPost_ret (v := .tuple #[.agg #[.int .i64 0, .int .i64 0, .bool false, .int .i64 0, .int .u64 0], .int .i64 10]) ?_ rfl ⟨rfl, below_set5 HB.out (by omega)⟩
    rw [results_cell_tmp rfl]; go_simp
  · rw [hE]
    have hp := (mayE_zero.1 q0).1.2.2.2
    rw [q0] at HM
    clear q0 HW hE h
    simp only at hp
    rw [if_neg (by decide)]
    go_enter Try.func31, Try.ntmps31
    go_wp2_with fail
    refine (HM.out _).mono ?_; rintro e w1 ⟨rfl, hb⟩
    have hbx : Blk w1 w.heap.size 28 _ := ((Blk.new w 28 #[.int .i64 m, .int .i64 so, .bool ho, .int .i64 fl, .int .u64 ep]).alloc _).bl hb
    have hbz : Blk w1 (w.heap.size + 1) 28 _ := (blk_new' (w.alloc (.cells #[.int .i64 m, .int .i64 so, .bool ho, .int .i64 fl, .int .u64 ep] 28)) (g := w.heap.size + 1) (by simp) 28 #[.int .i64 0, .int .i64 0, .bool false, .int .i64 0, .int .u64 0]).bl hb
    have HB := Lib.hid ((((Below.refl w.heap.size w).alloc (Nat.le_refl _) (.cells #[.int .i64 m, .int .i64 so, .bool ho, .int .i64 fl, .int .u64 ep] 28)).alloc (by simp) (.cells #[.int .i64 0, .int .i64 0, .bool false, .int .i64 0, .int .u64 0] 28)).trans (hb.mono (by simp; omega)))
    clear hb
    have k0 := hbx.cell 0
    have k1 := hbx.cell 1
    have k2 := hbx.cell 2
    have k3 := hbx.cell 3
    have k4 := hbx.cell 4
    simp only [List.getElem?_toArray, List.getElem?_cons_succ, List.getElem?_cons_zero] at k0 k1 k2 k3 k4
    have z0 := hbz.cell 0
    have z1 := hbz.cell 1
    have z2 := hbz.cell 2
    have z3 := hbz.cell 3
    have z4 := hbz.cell 4
    simp only [List.getElem?_toArray, List.getElem?_cons_succ, List.getElem?_cons_zero] at z0 z1 z2 z3 z4
    have f0 := hbz.frozen 0
    have g0 := hbx.frozen 0
    have f1 := hbz.frozen 1
    have g1 := hbx.frozen 1
    have f2 := hbz.frozen 2
    have g2 := hbx.frozen 2
    have f3 := hbz.frozen 3
    have g3 := hbx.frozen 3
    have f4 := hbz.frozen 4
    have g4 := hbx.frozen 4
    have HX := Lib.hid hbx
    have HZ := Lib.hid hbz
    clear hbx hbz
    go_wp2_with (go_at_call 48; refine (health_any _ _).mono ?_; rintro e w' ⟨rfl, rfl⟩)
    (try simp only [Exit.inBlock, Exit.then])
    refine bodyPost_ret (v := .tuple #[.agg #[.int .i64 0, .int .i64 0, .bool false, .int .i64 0, .int .u64 0], .int .i64 16]) ?_ rfl ⟨rfl, below_set5 HB.out (by omega)⟩
    rw [results_cell_tmp rfl]; go_simp
  · rw [hE]
    have hp := (mayE_zero.1 q0).1.2.2.2
    rw [q0] at HM
    clear q0 HW hE h
    simp only at hp
    rw [if_pos rfl]
    go_enter Try.func31, Try.ntmps31
    go_wp2_with fail
    refine (HM.out _).mono ?_; rintro e w1 ⟨rfl, hb⟩
    have hbx : Blk w1 w.heap.size 28 _ := ((Blk.new w 28 #[.int .i64 m, .int .i64 so, .bool ho, .int .i64 fl, .int .u64 ep]).alloc _).bl hb
    have hbz : Blk w1 (w.heap.size + 1) 28 _ := (blk_new' (w.alloc (.cells #[.int .i64 m, .int .i64 so, .bool ho, .int .i64 fl, .int .u64 ep] 28)) (g := w.heap.size + 1) (by simp) 28 #[.int .i64 0, .int .i64 0, .bool false, .int .i64 0, .int .u64 0]).bl hb
    have HB := Lib.hid ((((Below.refl w.heap.size w).alloc (Nat.le_refl _) (.cells #[.int .i64 m, .int .i64 so, .bool ho, .int .i64 fl, .int .u64 ep] 28)).alloc (by simp) (.cells #[.int .i64 0, .int .i64 0, .bool false, .int .i64 0, .int .u64 0] 28)).trans (hb.mono (by simp; omega)))
    clear hb
    have k0 := hbx.cell 0
    have k1 := hbx.cell 1
    have k2 := hbx.cell 2
    have k3 := hbx.cell 3
    have k4 := hbx.cell 4
    simp only [List.getElem?_toArray, List.getElem?_cons_succ, List.getElem?_cons_zero] at k0 k1 k2 k3 k4
    have z0 := hbz.cell 0
    have z1 := hbz.cell 1
    have z2 := hbz.cell 2
    have z3 := hbz.cell 3
    have z4 := hbz.cell 4
    simp only [List.getElem?_toArray, List.getElem?_cons_succ, List.getElem?_cons_zero] at z0 z1 z2 z3 z4
    have f0 := hbz.frozen 0
    have g0 := hbx.frozen 0
    have f1 := hbz.frozen 1
    have g1 := hbx.frozen 1
    have f2 := hbz.frozen 2
    have g2 := hbx.frozen 2
    have f3 := hbz.frozen 3
    have g3 := hbx.frozen 3
    have f4 := hbz.frozen 4
    have g4 := hbx.frozen 4
    have HX := Lib.hid hbx
    have HZ := Lib.hid hbz
    clear hbx hbz
    go_wp2_with (go_at_call 48; refine (health_any _ _).mono ?_; rintro e w' ⟨rfl, rfl⟩)
    (try simp only [Exit.inBlock, Exit.then])
    refine bodyPost_ret (v := .tuple #[.agg #[.int .i64 m, .int .i64 so, .bool ho, .int .i64 f, .int .u64 (ep + 1)], .int .i64 0]) ?_ rfl ⟨rfl, below_set5 (Below.setCell (Below.setCell HB.out (Nat.le_refl _) _) (Nat.le_refl _) _) (by omega)⟩
    rw [results_cell_tmp rfl]; go_simp
end Go.Proofs.Ythhellgaafbokaa.Reg
