/-
  Reg: the walks through the reference's Decide, way by way. Conditions stand at each. By an AI agent.
-/
import Derived.Test.YtkmlikohgilnbaaDoorRefH
namespace Go.Proofs.YtkmlikohgilnbaaDoor.Reg
set_option linter.unusedVariables false
set_option linter.unusedSimpArgs false
open Go Go.RowKit Go.Proofs.YtkmlikohgilnbaaDoor.Base Go.Proofs.YtkmlikohgilnbaaDoor.Modes Go.Deep

set_option maxRecDepth 100000 in
set_option maxHeartbeats 8000000 in
theorem rd1 (m so fl ep q am : Int) (ho af pb : Bool) (w : World)
    (HM : Hid (∀ (w : World), Calls Tryd.prog 44 #[.agg #[.int .i64 m, .int .i64 so, .bool ho, .int .i64 fl, .int .u64 ep]] w fun e w' => e = .returned (.tuple #[.bool false, .bool pb]) ∧ Below w.heap.size w w')) :
    Calls Tryd.prog 61 #[.agg #[.int .i64 m, .int .i64 so, .bool ho, .int .i64 fl, .int .u64 ep], .agg #[.int .i64 q, .int .i64 am, .bool af]] w fun e w' => e = .returned (.tuple #[.agg #[.int .i64 0, .int .i64 0, .bool false, .int .i64 0, .int .u64 0], .int .i64 1]) ∧ Below w.heap.size w w' := by
  go_enter Tryd.func61, Tryd.ntmps61
  go_wp2_with fail
  refine (HM.out _).mono ?_; rintro e w1 ⟨rfl, hb⟩
  have hbs : Blk w1 w.heap.size 34 _ := (((Blk.new w 34 _).alloc _).alloc _).bl hb
  have hba : Blk w1 (w.heap.size + 1) 44 _ := ((blk_new' (w.alloc _) (g := w.heap.size + 1) (by simp) 44 _).alloc _).bl hb
  have hbz : Blk w1 (w.heap.size + 1 + 1) 34 _ := (blk_new' ((w.alloc _).alloc _) (g := w.heap.size + 1 + 1) (by simp) 34 _).bl hb
  have HB := Lib.hid (((((Below.refl w.heap.size w).alloc (Nat.le_refl _) _).alloc (by simp) _).alloc (by simp <;> omega) _).trans (hb.mono (by simp <;> omega)))
  clear hb
  have k0 := hbs.cell 0
  have k1 := hbs.cell 1
  have k2 := hbs.cell 2
  have k3 := hbs.cell 3
  have k4 := hbs.cell 4
  simp only [List.getElem?_toArray, List.getElem?_cons_succ, List.getElem?_cons_zero] at k0 k1 k2 k3 k4
  have l0 := hba.cell 0
  have l1 := hba.cell 1
  have l2 := hba.cell 2
  simp only [List.getElem?_toArray, List.getElem?_cons_succ, List.getElem?_cons_zero] at l0 l1 l2
  have z0 := hbz.cell 0
  have z1 := hbz.cell 1
  have z2 := hbz.cell 2
  have z3 := hbz.cell 3
  have z4 := hbz.cell 4
  simp only [List.getElem?_toArray, List.getElem?_cons_succ, List.getElem?_cons_zero] at z0 z1 z2 z3 z4
  have g0 := hbz.frozen 0
  have g1 := hbz.frozen 1
  have g2 := hbz.frozen 2
  have g3 := hbz.frozen 3
  have g4 := hbz.frozen 4
  have HS := Lib.hid hbs
  have HA := Lib.hid hba
  have HZ := Lib.hid hbz
  clear hbs hba hbz
  go_wp2_with fail
  (try simp only [Exit.inBlock, Exit.then])
  refine bodyPost_ret (v := .tuple #[.agg #[.int .i64 0, .int .i64 0, .bool false, .int .i64 0, .int .u64 0], .int .i64 1]) ?_ rfl ⟨rfl, below_set5 (HB.out) (by omega)⟩
  rw [results_cell_tmp rfl]; go_simp

set_option maxRecDepth 100000 in
set_option maxHeartbeats 8000000 in
theorem rd10a (m so fl ep q am : Int) (ho af pb : Bool) (w : World)
    (HM : Hid (∀ (w : World), Calls Tryd.prog 44 #[.agg #[.int .i64 m, .int .i64 so, .bool ho, .int .i64 fl, .int .u64 ep]] w fun e w' => e = .returned (.tuple #[.bool true, .bool pb]) ∧ Below w.heap.size w w')) (a0 : decide (q < 0) = true) :
    Calls Tryd.prog 61 #[.agg #[.int .i64 m, .int .i64 so, .bool ho, .int .i64 fl, .int .u64 ep], .agg #[.int .i64 q, .int .i64 am, .bool af]] w fun e w' => e = .returned (.tuple #[.agg #[.int .i64 0, .int .i64 0, .bool false, .int .i64 0, .int .u64 0], .int .i64 10]) ∧ Below w.heap.size w w' := by
  go_enter Tryd.func61, Tryd.ntmps61
  go_wp2_with fail
  refine (HM.out _).mono ?_; rintro e w1 ⟨rfl, hb⟩
  have hbs : Blk w1 w.heap.size 34 _ := (((Blk.new w 34 _).alloc _).alloc _).bl hb
  have hba : Blk w1 (w.heap.size + 1) 44 _ := ((blk_new' (w.alloc _) (g := w.heap.size + 1) (by simp) 44 _).alloc _).bl hb
  have hbz : Blk w1 (w.heap.size + 1 + 1) 34 _ := (blk_new' ((w.alloc _).alloc _) (g := w.heap.size + 1 + 1) (by simp) 34 _).bl hb
  have HB := Lib.hid (((((Below.refl w.heap.size w).alloc (Nat.le_refl _) _).alloc (by simp) _).alloc (by simp <;> omega) _).trans (hb.mono (by simp <;> omega)))
  clear hb
  have k0 := hbs.cell 0
  have k1 := hbs.cell 1
  have k2 := hbs.cell 2
  have k3 := hbs.cell 3
  have k4 := hbs.cell 4
  simp only [List.getElem?_toArray, List.getElem?_cons_succ, List.getElem?_cons_zero] at k0 k1 k2 k3 k4
  have l0 := hba.cell 0
  have l1 := hba.cell 1
  have l2 := hba.cell 2
  simp only [List.getElem?_toArray, List.getElem?_cons_succ, List.getElem?_cons_zero] at l0 l1 l2
  have z0 := hbz.cell 0
  have z1 := hbz.cell 1
  have z2 := hbz.cell 2
  have z3 := hbz.cell 3
  have z4 := hbz.cell 4
  simp only [List.getElem?_toArray, List.getElem?_cons_succ, List.getElem?_cons_zero] at z0 z1 z2 z3 z4
  have g0 := hbz.frozen 0
  have g1 := hbz.frozen 1
  have g2 := hbz.frozen 2
  have g3 := hbz.frozen 3
  have g4 := hbz.frozen 4
  have HS := Lib.hid hbs
  have HA := Lib.hid hba
  have HZ := Lib.hid hbz
  clear hbs hba hbz
  go_wp2_with fail
  (try simp only [Exit.inBlock, Exit.then])
  refine bodyPost_ret (v := .tuple #[.agg #[.int .i64 0, .int .i64 0, .bool false, .int .i64 0, .int .u64 0], .int .i64 10]) ?_ rfl ⟨rfl, below_set5 (HB.out) (by omega)⟩
  rw [results_cell_tmp rfl]; go_simp

set_option maxRecDepth 100000 in
set_option maxHeartbeats 8000000 in
theorem rd10b (m so fl ep q am : Int) (ho af pb : Bool) (w : World)
    (HM : Hid (∀ (w : World), Calls Tryd.prog 44 #[.agg #[.int .i64 m, .int .i64 so, .bool ho, .int .i64 fl, .int .u64 ep]] w fun e w' => e = .returned (.tuple #[.bool true, .bool pb]) ∧ Below w.heap.size w w')) (a0 : decide (q < 0) = false) (a1 : decide (3 < q) = true) :
    Calls Tryd.prog 61 #[.agg #[.int .i64 m, .int .i64 so, .bool ho, .int .i64 fl, .int .u64 ep], .agg #[.int .i64 q, .int .i64 am, .bool af]] w fun e w' => e = .returned (.tuple #[.agg #[.int .i64 0, .int .i64 0, .bool false, .int .i64 0, .int .u64 0], .int .i64 10]) ∧ Below w.heap.size w w' := by
  go_enter Tryd.func61, Tryd.ntmps61
  go_wp2_with fail
  refine (HM.out _).mono ?_; rintro e w1 ⟨rfl, hb⟩
  have hbs : Blk w1 w.heap.size 34 _ := (((Blk.new w 34 _).alloc _).alloc _).bl hb
  have hba : Blk w1 (w.heap.size + 1) 44 _ := ((blk_new' (w.alloc _) (g := w.heap.size + 1) (by simp) 44 _).alloc _).bl hb
  have hbz : Blk w1 (w.heap.size + 1 + 1) 34 _ := (blk_new' ((w.alloc _).alloc _) (g := w.heap.size + 1 + 1) (by simp) 34 _).bl hb
  have HB := Lib.hid (((((Below.refl w.heap.size w).alloc (Nat.le_refl _) _).alloc (by simp) _).alloc (by simp <;> omega) _).trans (hb.mono (by simp <;> omega)))
  clear hb
  have k0 := hbs.cell 0
  have k1 := hbs.cell 1
  have k2 := hbs.cell 2
  have k3 := hbs.cell 3
  have k4 := hbs.cell 4
  simp only [List.getElem?_toArray, List.getElem?_cons_succ, List.getElem?_cons_zero] at k0 k1 k2 k3 k4
  have l0 := hba.cell 0
  have l1 := hba.cell 1
  have l2 := hba.cell 2
  simp only [List.getElem?_toArray, List.getElem?_cons_succ, List.getElem?_cons_zero] at l0 l1 l2
  have z0 := hbz.cell 0
  have z1 := hbz.cell 1
  have z2 := hbz.cell 2
  have z3 := hbz.cell 3
  have z4 := hbz.cell 4
  simp only [List.getElem?_toArray, List.getElem?_cons_succ, List.getElem?_cons_zero] at z0 z1 z2 z3 z4
  have g0 := hbz.frozen 0
  have g1 := hbz.frozen 1
  have g2 := hbz.frozen 2
  have g3 := hbz.frozen 3
  have g4 := hbz.frozen 4
  have HS := Lib.hid hbs
  have HA := Lib.hid hba
  have HZ := Lib.hid hbz
  clear hbs hba hbz
  go_wp2_with fail
  (try simp only [Exit.inBlock, Exit.then])
  refine bodyPost_ret (v := .tuple #[.agg #[.int .i64 0, .int .i64 0, .bool false, .int .i64 0, .int .u64 0], .int .i64 10]) ?_ rfl ⟨rfl, below_set5 (HB.out) (by omega)⟩
  rw [results_cell_tmp rfl]; go_simp

set_option maxRecDepth 100000 in
set_option maxHeartbeats 8000000 in
theorem rd10c (m so fl ep q am : Int) (ho af pb : Bool) (w : World)
    (HM : Hid (∀ (w : World), Calls Tryd.prog 44 #[.agg #[.int .i64 m, .int .i64 so, .bool ho, .int .i64 fl, .int .u64 ep]] w fun e w' => e = .returned (.tuple #[.bool true, .bool pb]) ∧ Below w.heap.size w w')) (a0 : decide (q < 0) = false) (a1 : decide (3 < q) = false) (a2 : decide (am < 0) = true) :
    Calls Tryd.prog 61 #[.agg #[.int .i64 m, .int .i64 so, .bool ho, .int .i64 fl, .int .u64 ep], .agg #[.int .i64 q, .int .i64 am, .bool af]] w fun e w' => e = .returned (.tuple #[.agg #[.int .i64 0, .int .i64 0, .bool false, .int .i64 0, .int .u64 0], .int .i64 10]) ∧ Below w.heap.size w w' := by
  go_enter Tryd.func61, Tryd.ntmps61
  go_wp2_with fail
  refine (HM.out _).mono ?_; rintro e w1 ⟨rfl, hb⟩
  have hbs : Blk w1 w.heap.size 34 _ := (((Blk.new w 34 _).alloc _).alloc _).bl hb
  have hba : Blk w1 (w.heap.size + 1) 44 _ := ((blk_new' (w.alloc _) (g := w.heap.size + 1) (by simp) 44 _).alloc _).bl hb
  have hbz : Blk w1 (w.heap.size + 1 + 1) 34 _ := (blk_new' ((w.alloc _).alloc _) (g := w.heap.size + 1 + 1) (by simp) 34 _).bl hb
  have HB := Lib.hid (((((Below.refl w.heap.size w).alloc (Nat.le_refl _) _).alloc (by simp) _).alloc (by simp <;> omega) _).trans (hb.mono (by simp <;> omega)))
  clear hb
  have k0 := hbs.cell 0
  have k1 := hbs.cell 1
  have k2 := hbs.cell 2
  have k3 := hbs.cell 3
  have k4 := hbs.cell 4
  simp only [List.getElem?_toArray, List.getElem?_cons_succ, List.getElem?_cons_zero] at k0 k1 k2 k3 k4
  have l0 := hba.cell 0
  have l1 := hba.cell 1
  have l2 := hba.cell 2
  simp only [List.getElem?_toArray, List.getElem?_cons_succ, List.getElem?_cons_zero] at l0 l1 l2
  have z0 := hbz.cell 0
  have z1 := hbz.cell 1
  have z2 := hbz.cell 2
  have z3 := hbz.cell 3
  have z4 := hbz.cell 4
  simp only [List.getElem?_toArray, List.getElem?_cons_succ, List.getElem?_cons_zero] at z0 z1 z2 z3 z4
  have g0 := hbz.frozen 0
  have g1 := hbz.frozen 1
  have g2 := hbz.frozen 2
  have g3 := hbz.frozen 3
  have g4 := hbz.frozen 4
  have HS := Lib.hid hbs
  have HA := Lib.hid hba
  have HZ := Lib.hid hbz
  clear hbs hba hbz
  go_wp2_with fail
  (try simp only [Exit.inBlock, Exit.then])
  refine bodyPost_ret (v := .tuple #[.agg #[.int .i64 0, .int .i64 0, .bool false, .int .i64 0, .int .u64 0], .int .i64 10]) ?_ rfl ⟨rfl, below_set5 (HB.out) (by omega)⟩
  rw [results_cell_tmp rfl]; go_simp

set_option maxRecDepth 100000 in
set_option maxHeartbeats 8000000 in
theorem rd10d (m so fl ep q am : Int) (ho af pb : Bool) (w : World)
    (HM : Hid (∀ (w : World), Calls Tryd.prog 44 #[.agg #[.int .i64 m, .int .i64 so, .bool ho, .int .i64 fl, .int .u64 ep]] w fun e w' => e = .returned (.tuple #[.bool true, .bool pb]) ∧ Below w.heap.size w w')) (a0 : decide (q < 0) = false) (a1 : decide (3 < q) = false) (a2 : decide (am < 0) = false) (a3 : decide (7 < am) = true) :
    Calls Tryd.prog 61 #[.agg #[.int .i64 m, .int .i64 so, .bool ho, .int .i64 fl, .int .u64 ep], .agg #[.int .i64 q, .int .i64 am, .bool af]] w fun e w' => e = .returned (.tuple #[.agg #[.int .i64 0, .int .i64 0, .bool false, .int .i64 0, .int .u64 0], .int .i64 10]) ∧ Below w.heap.size w w' := by
  go_enter Tryd.func61, Tryd.ntmps61
  go_wp2_with fail
  refine (HM.out _).mono ?_; rintro e w1 ⟨rfl, hb⟩
  have hbs : Blk w1 w.heap.size 34 _ := (((Blk.new w 34 _).alloc _).alloc _).bl hb
  have hba : Blk w1 (w.heap.size + 1) 44 _ := ((blk_new' (w.alloc _) (g := w.heap.size + 1) (by simp) 44 _).alloc _).bl hb
  have hbz : Blk w1 (w.heap.size + 1 + 1) 34 _ := (blk_new' ((w.alloc _).alloc _) (g := w.heap.size + 1 + 1) (by simp) 34 _).bl hb
  have HB := Lib.hid (((((Below.refl w.heap.size w).alloc (Nat.le_refl _) _).alloc (by simp) _).alloc (by simp <;> omega) _).trans (hb.mono (by simp <;> omega)))
  clear hb
  have k0 := hbs.cell 0
  have k1 := hbs.cell 1
  have k2 := hbs.cell 2
  have k3 := hbs.cell 3
  have k4 := hbs.cell 4
  simp only [List.getElem?_toArray, List.getElem?_cons_succ, List.getElem?_cons_zero] at k0 k1 k2 k3 k4
  have l0 := hba.cell 0
  have l1 := hba.cell 1
  have l2 := hba.cell 2
  simp only [List.getElem?_toArray, List.getElem?_cons_succ, List.getElem?_cons_zero] at l0 l1 l2
  have z0 := hbz.cell 0
  have z1 := hbz.cell 1
  have z2 := hbz.cell 2
  have z3 := hbz.cell 3
  have z4 := hbz.cell 4
  simp only [List.getElem?_toArray, List.getElem?_cons_succ, List.getElem?_cons_zero] at z0 z1 z2 z3 z4
  have g0 := hbz.frozen 0
  have g1 := hbz.frozen 1
  have g2 := hbz.frozen 2
  have g3 := hbz.frozen 3
  have g4 := hbz.frozen 4
  have HS := Lib.hid hbs
  have HA := Lib.hid hba
  have HZ := Lib.hid hbz
  clear hbs hba hbz
  go_wp2_with fail
  (try simp only [Exit.inBlock, Exit.then])
  refine bodyPost_ret (v := .tuple #[.agg #[.int .i64 0, .int .i64 0, .bool false, .int .i64 0, .int .u64 0], .int .i64 10]) ?_ rfl ⟨rfl, below_set5 (HB.out) (by omega)⟩
  rw [results_cell_tmp rfl]; go_simp

set_option maxRecDepth 100000 in
set_option maxHeartbeats 8000000 in
theorem rd23 (m so fl ep q am : Int) (af pb : Bool) (w : World)
    (HM : Hid (∀ (w : World), Calls Tryd.prog 44 #[.agg #[.int .i64 m, .int .i64 so, .bool true, .int .i64 fl, .int .u64 ep]] w fun e w' => e = .returned (.tuple #[.bool true, .bool pb]) ∧ Below w.heap.size w w')) (a0 : decide (q < 0) = false) (a1 : decide (3 < q) = false) (a2 : decide (am < 0) = false) (a3 : decide (7 < am) = false) (h1 : (q != 3) = true) :
    Calls Tryd.prog 61 #[.agg #[.int .i64 m, .int .i64 so, .bool true, .int .i64 fl, .int .u64 ep], .agg #[.int .i64 q, .int .i64 am, .bool af]] w fun e w' => e = .returned (.tuple #[.agg #[.int .i64 0, .int .i64 0, .bool false, .int .i64 0, .int .u64 0], .int .i64 23]) ∧ Below w.heap.size w w' := by
  go_enter Tryd.func61, Tryd.ntmps61
  go_wp2_with fail
  refine (HM.out _).mono ?_; rintro e w1 ⟨rfl, hb⟩
  have hbs : Blk w1 w.heap.size 34 _ := (((Blk.new w 34 _).alloc _).alloc _).bl hb
  have hba : Blk w1 (w.heap.size + 1) 44 _ := ((blk_new' (w.alloc _) (g := w.heap.size + 1) (by simp) 44 _).alloc _).bl hb
  have hbz : Blk w1 (w.heap.size + 1 + 1) 34 _ := (blk_new' ((w.alloc _).alloc _) (g := w.heap.size + 1 + 1) (by simp) 34 _).bl hb
  have HB := Lib.hid (((((Below.refl w.heap.size w).alloc (Nat.le_refl _) _).alloc (by simp) _).alloc (by simp <;> omega) _).trans (hb.mono (by simp <;> omega)))
  clear hb
  have k0 := hbs.cell 0
  have k1 := hbs.cell 1
  have k2 := hbs.cell 2
  have k3 := hbs.cell 3
  have k4 := hbs.cell 4
  simp only [List.getElem?_toArray, List.getElem?_cons_succ, List.getElem?_cons_zero] at k0 k1 k2 k3 k4
  have l0 := hba.cell 0
  have l1 := hba.cell 1
  have l2 := hba.cell 2
  simp only [List.getElem?_toArray, List.getElem?_cons_succ, List.getElem?_cons_zero] at l0 l1 l2
  have z0 := hbz.cell 0
  have z1 := hbz.cell 1
  have z2 := hbz.cell 2
  have z3 := hbz.cell 3
  have z4 := hbz.cell 4
  simp only [List.getElem?_toArray, List.getElem?_cons_succ, List.getElem?_cons_zero] at z0 z1 z2 z3 z4
  have g0 := hbz.frozen 0
  have g1 := hbz.frozen 1
  have g2 := hbz.frozen 2
  have g3 := hbz.frozen 3
  have g4 := hbz.frozen 4
  have HS := Lib.hid hbs
  have HA := Lib.hid hba
  have HZ := Lib.hid hbz
  clear hbs hba hbz
  go_wp2_with fail
  (try simp only [Exit.inBlock, Exit.then])
  refine bodyPost_ret (v := .tuple #[.agg #[.int .i64 0, .int .i64 0, .bool false, .int .i64 0, .int .u64 0], .int .i64 23]) ?_ rfl ⟨rfl, below_set5 (HB.out) (by omega)⟩
  rw [results_cell_tmp rfl]; go_simp

set_option maxRecDepth 100000 in
set_option maxHeartbeats 8000000 in
theorem rd24t (m so fl ep q am : Int) (af pb : Bool) (w : World)
    (HM : Hid (∀ (w : World), Calls Tryd.prog 44 #[.agg #[.int .i64 m, .int .i64 so, .bool true, .int .i64 fl, .int .u64 ep]] w fun e w' => e = .returned (.tuple #[.bool true, .bool pb]) ∧ Below w.heap.size w w')) (a0 : decide (q < 0) = false) (a1 : decide (3 < q) = false) (a2 : decide (am < 0) = false) (a3 : decide (7 < am) = false) (h1 : (q != 3) = false) (r0 : decide (q < so) = true) (r1 : (m != 0) = true) :
    Calls Tryd.prog 61 #[.agg #[.int .i64 m, .int .i64 so, .bool true, .int .i64 fl, .int .u64 ep], .agg #[.int .i64 q, .int .i64 am, .bool af]] w fun e w' => e = .returned (.tuple #[.agg #[.int .i64 0, .int .i64 0, .bool false, .int .i64 0, .int .u64 0], .int .i64 24]) ∧ Below w.heap.size w w' := by
  go_enter Tryd.func61, Tryd.ntmps61
  go_wp2_with fail
  refine (HM.out _).mono ?_; rintro e w1 ⟨rfl, hb⟩
  have hbs : Blk w1 w.heap.size 34 _ := (((Blk.new w 34 _).alloc _).alloc _).bl hb
  have hba : Blk w1 (w.heap.size + 1) 44 _ := ((blk_new' (w.alloc _) (g := w.heap.size + 1) (by simp) 44 _).alloc _).bl hb
  have hbz : Blk w1 (w.heap.size + 1 + 1) 34 _ := (blk_new' ((w.alloc _).alloc _) (g := w.heap.size + 1 + 1) (by simp) 34 _).bl hb
  have HB := Lib.hid (((((Below.refl w.heap.size w).alloc (Nat.le_refl _) _).alloc (by simp) _).alloc (by simp <;> omega) _).trans (hb.mono (by simp <;> omega)))
  clear hb
  have k0 := hbs.cell 0
  have k1 := hbs.cell 1
  have k2 := hbs.cell 2
  have k3 := hbs.cell 3
  have k4 := hbs.cell 4
  simp only [List.getElem?_toArray, List.getElem?_cons_succ, List.getElem?_cons_zero] at k0 k1 k2 k3 k4
  have l0 := hba.cell 0
  have l1 := hba.cell 1
  have l2 := hba.cell 2
  simp only [List.getElem?_toArray, List.getElem?_cons_succ, List.getElem?_cons_zero] at l0 l1 l2
  have z0 := hbz.cell 0
  have z1 := hbz.cell 1
  have z2 := hbz.cell 2
  have z3 := hbz.cell 3
  have z4 := hbz.cell 4
  simp only [List.getElem?_toArray, List.getElem?_cons_succ, List.getElem?_cons_zero] at z0 z1 z2 z3 z4
  have g0 := hbz.frozen 0
  have g1 := hbz.frozen 1
  have g2 := hbz.frozen 2
  have g3 := hbz.frozen 3
  have g4 := hbz.frozen 4
  have HS := Lib.hid hbs
  have HA := Lib.hid hba
  have HZ := Lib.hid hbz
  clear hbs hba hbz
  go_wp2_with fail
  (try simp only [Exit.inBlock, Exit.then])
  refine bodyPost_ret (v := .tuple #[.agg #[.int .i64 0, .int .i64 0, .bool false, .int .i64 0, .int .u64 0], .int .i64 24]) ?_ rfl ⟨rfl, below_set5 (HB.out) (by omega)⟩
  rw [results_cell_tmp rfl]; go_simp

set_option maxRecDepth 100000 in
set_option maxHeartbeats 8000000 in
theorem rd24f (m so fl ep q am : Int) (af pb : Bool) (w : World)
    (HM : Hid (∀ (w : World), Calls Tryd.prog 44 #[.agg #[.int .i64 m, .int .i64 so, .bool false, .int .i64 fl, .int .u64 ep]] w fun e w' => e = .returned (.tuple #[.bool true, .bool pb]) ∧ Below w.heap.size w w')) (a0 : decide (q < 0) = false) (a1 : decide (3 < q) = false) (a2 : decide (am < 0) = false) (a3 : decide (7 < am) = false) (r0 : decide (q < so) = true) (r1 : (m != 0) = true) :
    Calls Tryd.prog 61 #[.agg #[.int .i64 m, .int .i64 so, .bool false, .int .i64 fl, .int .u64 ep], .agg #[.int .i64 q, .int .i64 am, .bool af]] w fun e w' => e = .returned (.tuple #[.agg #[.int .i64 0, .int .i64 0, .bool false, .int .i64 0, .int .u64 0], .int .i64 24]) ∧ Below w.heap.size w w' := by
  go_enter Tryd.func61, Tryd.ntmps61
  go_wp2_with fail
  refine (HM.out _).mono ?_; rintro e w1 ⟨rfl, hb⟩
  have hbs : Blk w1 w.heap.size 34 _ := (((Blk.new w 34 _).alloc _).alloc _).bl hb
  have hba : Blk w1 (w.heap.size + 1) 44 _ := ((blk_new' (w.alloc _) (g := w.heap.size + 1) (by simp) 44 _).alloc _).bl hb
  have hbz : Blk w1 (w.heap.size + 1 + 1) 34 _ := (blk_new' ((w.alloc _).alloc _) (g := w.heap.size + 1 + 1) (by simp) 34 _).bl hb
  have HB := Lib.hid (((((Below.refl w.heap.size w).alloc (Nat.le_refl _) _).alloc (by simp) _).alloc (by simp <;> omega) _).trans (hb.mono (by simp <;> omega)))
  clear hb
  have k0 := hbs.cell 0
  have k1 := hbs.cell 1
  have k2 := hbs.cell 2
  have k3 := hbs.cell 3
  have k4 := hbs.cell 4
  simp only [List.getElem?_toArray, List.getElem?_cons_succ, List.getElem?_cons_zero] at k0 k1 k2 k3 k4
  have l0 := hba.cell 0
  have l1 := hba.cell 1
  have l2 := hba.cell 2
  simp only [List.getElem?_toArray, List.getElem?_cons_succ, List.getElem?_cons_zero] at l0 l1 l2
  have z0 := hbz.cell 0
  have z1 := hbz.cell 1
  have z2 := hbz.cell 2
  have z3 := hbz.cell 3
  have z4 := hbz.cell 4
  simp only [List.getElem?_toArray, List.getElem?_cons_succ, List.getElem?_cons_zero] at z0 z1 z2 z3 z4
  have g0 := hbz.frozen 0
  have g1 := hbz.frozen 1
  have g2 := hbz.frozen 2
  have g3 := hbz.frozen 3
  have g4 := hbz.frozen 4
  have HS := Lib.hid hbs
  have HA := Lib.hid hba
  have HZ := Lib.hid hbz
  clear hbs hba hbz
  go_wp2_with fail
  (try simp only [Exit.inBlock, Exit.then])
  refine bodyPost_ret (v := .tuple #[.agg #[.int .i64 0, .int .i64 0, .bool false, .int .i64 0, .int .u64 0], .int .i64 24]) ?_ rfl ⟨rfl, below_set5 (HB.out) (by omega)⟩
  rw [results_cell_tmp rfl]; go_simp

set_option maxRecDepth 100000 in
set_option maxHeartbeats 8000000 in
theorem rd21tt (m so fl ep q am : Int) (af pb : Bool) (w : World)
    (HM : Hid (∀ (w : World), Calls Tryd.prog 44 #[.agg #[.int .i64 m, .int .i64 so, .bool true, .int .i64 fl, .int .u64 ep]] w fun e w' => e = .returned (.tuple #[.bool true, .bool pb]) ∧ Below w.heap.size w w')) (a0 : decide (q < 0) = false) (a1 : decide (3 < q) = false) (a2 : decide (am < 0) = false) (a3 : decide (7 < am) = false) (h1 : (q != 3) = false) (r0 : decide (q < so) = true) (r1 : (m != 0) = false) (HF : Hid (∀ W, Calls Tryd.prog 68 #[.int .i64 m, .int .i64 am] W fun e w' => e = .returned (.tuple #[.agg #[.int .i64 0, .int .i64 0, .int .i64 0, .int .i64 0], .bool false]) ∧ Below W.heap.size W w')) :
    Calls Tryd.prog 61 #[.agg #[.int .i64 m, .int .i64 so, .bool true, .int .i64 fl, .int .u64 ep], .agg #[.int .i64 q, .int .i64 am, .bool af]] w fun e w' => e = .returned (.tuple #[.agg #[.int .i64 0, .int .i64 0, .bool false, .int .i64 0, .int .u64 0], .int .i64 21]) ∧ Below w.heap.size w w' := by
  go_enter Tryd.func61, Tryd.ntmps61
  go_wp2_with fail
  refine (HM.out _).mono ?_; rintro e w1 ⟨rfl, hb⟩
  have hbs : Blk w1 w.heap.size 34 _ := (((Blk.new w 34 _).alloc _).alloc _).bl hb
  have hba : Blk w1 (w.heap.size + 1) 44 _ := ((blk_new' (w.alloc _) (g := w.heap.size + 1) (by simp) 44 _).alloc _).bl hb
  have hbz : Blk w1 (w.heap.size + 1 + 1) 34 _ := (blk_new' ((w.alloc _).alloc _) (g := w.heap.size + 1 + 1) (by simp) 34 _).bl hb
  have HB := Lib.hid (((((Below.refl w.heap.size w).alloc (Nat.le_refl _) _).alloc (by simp) _).alloc (by simp <;> omega) _).trans (hb.mono (by simp <;> omega)))
  clear hb
  have k0 := hbs.cell 0
  have k1 := hbs.cell 1
  have k2 := hbs.cell 2
  have k3 := hbs.cell 3
  have k4 := hbs.cell 4
  simp only [List.getElem?_toArray, List.getElem?_cons_succ, List.getElem?_cons_zero] at k0 k1 k2 k3 k4
  have l0 := hba.cell 0
  have l1 := hba.cell 1
  have l2 := hba.cell 2
  simp only [List.getElem?_toArray, List.getElem?_cons_succ, List.getElem?_cons_zero] at l0 l1 l2
  have z0 := hbz.cell 0
  have z1 := hbz.cell 1
  have z2 := hbz.cell 2
  have z3 := hbz.cell 3
  have z4 := hbz.cell 4
  simp only [List.getElem?_toArray, List.getElem?_cons_succ, List.getElem?_cons_zero] at z0 z1 z2 z3 z4
  have g0 := hbz.frozen 0
  have g1 := hbz.frozen 1
  have g2 := hbz.frozen 2
  have g3 := hbz.frozen 3
  have g4 := hbz.frozen 4
  have HS := Lib.hid hbs
  have HA := Lib.hid hba
  have HZ := Lib.hid hbz
  clear hbs hba hbz
  go_wp2_with fail
  refine (HF.out _).mono ?_; rintro e w2 ⟨rfl, hb2⟩
  have hbs := HS.out.bl hb2
  have hba := HA.out.bl hb2
  have hbz := HZ.out.bl hb2
  have HB2 := Lib.hid (bl HB.out hb2)
  have hsz : w.heap.size + 1 + 1 < w2.heap.size := hbz.lt
  clear hb2
  clear k0 k1 k2 k3 k4 l0 l1 l2 z0 z1 z2 z3 z4 g0 g1 g2 g3 g4
  have k0 := hbs.cell 0
  have k1 := hbs.cell 1
  have k2 := hbs.cell 2
  have k3 := hbs.cell 3
  have k4 := hbs.cell 4
  simp only [List.getElem?_toArray, List.getElem?_cons_succ, List.getElem?_cons_zero] at k0 k1 k2 k3 k4
  have l0 := hba.cell 0
  have l1 := hba.cell 1
  have l2 := hba.cell 2
  simp only [List.getElem?_toArray, List.getElem?_cons_succ, List.getElem?_cons_zero] at l0 l1 l2
  have z0 := hbz.cell 0
  have z1 := hbz.cell 1
  have z2 := hbz.cell 2
  have z3 := hbz.cell 3
  have z4 := hbz.cell 4
  simp only [List.getElem?_toArray, List.getElem?_cons_succ, List.getElem?_cons_zero] at z0 z1 z2 z3 z4
  have g0 := hbz.frozen 0
  have g1 := hbz.frozen 1
  have g2 := hbz.frozen 2
  have g3 := hbz.frozen 3
  have g4 := hbz.frozen 4
  have HS2 := Lib.hid hbs
  have HZ2 := Lib.hid hbz
  clear hbs hba hbz HS HA HZ HB HF
  have m0 : ¬ w.heap.size = w2.heap.size := by omega
  have m1 : ¬ w.heap.size + 1 = w2.heap.size := by omega
  have m2 : ¬ w.heap.size + 1 + 1 = w2.heap.size := by omega
  have m3 : w.heap.size < w2.heap.size := by omega
  have m4 : w.heap.size + 1 < w2.heap.size := by omega
  go_wp2_with fail
  (try simp only [Exit.inBlock, Exit.then])
  refine bodyPost_ret (v := .tuple #[.agg #[.int .i64 0, .int .i64 0, .bool false, .int .i64 0, .int .u64 0], .int .i64 21]) ?_ rfl ⟨rfl, (below_set5 HB2.out (by omega)).alloc (by simp [World.setCell]; omega) _⟩
  rw [results_cell_tmp rfl]; go_simp

set_option maxRecDepth 100000 in
set_option maxHeartbeats 8000000 in
theorem rd21tf (m so fl ep q am : Int) (af pb : Bool) (w : World)
    (HM : Hid (∀ (w : World), Calls Tryd.prog 44 #[.agg #[.int .i64 m, .int .i64 so, .bool true, .int .i64 fl, .int .u64 ep]] w fun e w' => e = .returned (.tuple #[.bool true, .bool pb]) ∧ Below w.heap.size w w')) (a0 : decide (q < 0) = false) (a1 : decide (3 < q) = false) (a2 : decide (am < 0) = false) (a3 : decide (7 < am) = false) (h1 : (q != 3) = false) (r0 : decide (q < so) = false) (HF : Hid (∀ W, Calls Tryd.prog 68 #[.int .i64 m, .int .i64 am] W fun e w' => e = .returned (.tuple #[.agg #[.int .i64 0, .int .i64 0, .int .i64 0, .int .i64 0], .bool false]) ∧ Below W.heap.size W w')) :
    Calls Tryd.prog 61 #[.agg #[.int .i64 m, .int .i64 so, .bool true, .int .i64 fl, .int .u64 ep], .agg #[.int .i64 q, .int .i64 am, .bool af]] w fun e w' => e = .returned (.tuple #[.agg #[.int .i64 0, .int .i64 0, .bool false, .int .i64 0, .int .u64 0], .int .i64 21]) ∧ Below w.heap.size w w' := by
  go_enter Tryd.func61, Tryd.ntmps61
  go_wp2_with fail
  refine (HM.out _).mono ?_; rintro e w1 ⟨rfl, hb⟩
  have hbs : Blk w1 w.heap.size 34 _ := (((Blk.new w 34 _).alloc _).alloc _).bl hb
  have hba : Blk w1 (w.heap.size + 1) 44 _ := ((blk_new' (w.alloc _) (g := w.heap.size + 1) (by simp) 44 _).alloc _).bl hb
  have hbz : Blk w1 (w.heap.size + 1 + 1) 34 _ := (blk_new' ((w.alloc _).alloc _) (g := w.heap.size + 1 + 1) (by simp) 34 _).bl hb
  have HB := Lib.hid (((((Below.refl w.heap.size w).alloc (Nat.le_refl _) _).alloc (by simp) _).alloc (by simp <;> omega) _).trans (hb.mono (by simp <;> omega)))
  clear hb
  have k0 := hbs.cell 0
  have k1 := hbs.cell 1
  have k2 := hbs.cell 2
  have k3 := hbs.cell 3
  have k4 := hbs.cell 4
  simp only [List.getElem?_toArray, List.getElem?_cons_succ, List.getElem?_cons_zero] at k0 k1 k2 k3 k4
  have l0 := hba.cell 0
  have l1 := hba.cell 1
  have l2 := hba.cell 2
  simp only [List.getElem?_toArray, List.getElem?_cons_succ, List.getElem?_cons_zero] at l0 l1 l2
  have z0 := hbz.cell 0
  have z1 := hbz.cell 1
  have z2 := hbz.cell 2
  have z3 := hbz.cell 3
  have z4 := hbz.cell 4
  simp only [List.getElem?_toArray, List.getElem?_cons_succ, List.getElem?_cons_zero] at z0 z1 z2 z3 z4
  have g0 := hbz.frozen 0
  have g1 := hbz.frozen 1
  have g2 := hbz.frozen 2
  have g3 := hbz.frozen 3
  have g4 := hbz.frozen 4
  have HS := Lib.hid hbs
  have HA := Lib.hid hba
  have HZ := Lib.hid hbz
  clear hbs hba hbz
  go_wp2_with fail
  refine (HF.out _).mono ?_; rintro e w2 ⟨rfl, hb2⟩
  have hbs := HS.out.bl hb2
  have hba := HA.out.bl hb2
  have hbz := HZ.out.bl hb2
  have HB2 := Lib.hid (bl HB.out hb2)
  have hsz : w.heap.size + 1 + 1 < w2.heap.size := hbz.lt
  clear hb2
  clear k0 k1 k2 k3 k4 l0 l1 l2 z0 z1 z2 z3 z4 g0 g1 g2 g3 g4
  have k0 := hbs.cell 0
  have k1 := hbs.cell 1
  have k2 := hbs.cell 2
  have k3 := hbs.cell 3
  have k4 := hbs.cell 4
  simp only [List.getElem?_toArray, List.getElem?_cons_succ, List.getElem?_cons_zero] at k0 k1 k2 k3 k4
  have l0 := hba.cell 0
  have l1 := hba.cell 1
  have l2 := hba.cell 2
  simp only [List.getElem?_toArray, List.getElem?_cons_succ, List.getElem?_cons_zero] at l0 l1 l2
  have z0 := hbz.cell 0
  have z1 := hbz.cell 1
  have z2 := hbz.cell 2
  have z3 := hbz.cell 3
  have z4 := hbz.cell 4
  simp only [List.getElem?_toArray, List.getElem?_cons_succ, List.getElem?_cons_zero] at z0 z1 z2 z3 z4
  have g0 := hbz.frozen 0
  have g1 := hbz.frozen 1
  have g2 := hbz.frozen 2
  have g3 := hbz.frozen 3
  have g4 := hbz.frozen 4
  have HS2 := Lib.hid hbs
  have HZ2 := Lib.hid hbz
  clear hbs hba hbz HS HA HZ HB HF
  have m0 : ¬ w.heap.size = w2.heap.size := by omega
  have m1 : ¬ w.heap.size + 1 = w2.heap.size := by omega
  have m2 : ¬ w.heap.size + 1 + 1 = w2.heap.size := by omega
  have m3 : w.heap.size < w2.heap.size := by omega
  have m4 : w.heap.size + 1 < w2.heap.size := by omega
  go_wp2_with fail
  (try simp only [Exit.inBlock, Exit.then])
  refine bodyPost_ret (v := .tuple #[.agg #[.int .i64 0, .int .i64 0, .bool false, .int .i64 0, .int .u64 0], .int .i64 21]) ?_ rfl ⟨rfl, (below_set5 HB2.out (by omega)).alloc (by simp [World.setCell]; omega) _⟩
  rw [results_cell_tmp rfl]; go_simp

set_option maxRecDepth 100000 in
set_option maxHeartbeats 8000000 in
theorem rd21ft (m so fl ep q am : Int) (af pb : Bool) (w : World)
    (HM : Hid (∀ (w : World), Calls Tryd.prog 44 #[.agg #[.int .i64 m, .int .i64 so, .bool false, .int .i64 fl, .int .u64 ep]] w fun e w' => e = .returned (.tuple #[.bool true, .bool pb]) ∧ Below w.heap.size w w')) (a0 : decide (q < 0) = false) (a1 : decide (3 < q) = false) (a2 : decide (am < 0) = false) (a3 : decide (7 < am) = false) (r0 : decide (q < so) = true) (r1 : (m != 0) = false) (HF : Hid (∀ W, Calls Tryd.prog 68 #[.int .i64 m, .int .i64 am] W fun e w' => e = .returned (.tuple #[.agg #[.int .i64 0, .int .i64 0, .int .i64 0, .int .i64 0], .bool false]) ∧ Below W.heap.size W w')) :
    Calls Tryd.prog 61 #[.agg #[.int .i64 m, .int .i64 so, .bool false, .int .i64 fl, .int .u64 ep], .agg #[.int .i64 q, .int .i64 am, .bool af]] w fun e w' => e = .returned (.tuple #[.agg #[.int .i64 0, .int .i64 0, .bool false, .int .i64 0, .int .u64 0], .int .i64 21]) ∧ Below w.heap.size w w' := by
  go_enter Tryd.func61, Tryd.ntmps61
  go_wp2_with fail
  refine (HM.out _).mono ?_; rintro e w1 ⟨rfl, hb⟩
  have hbs : Blk w1 w.heap.size 34 _ := (((Blk.new w 34 _).alloc _).alloc _).bl hb
  have hba : Blk w1 (w.heap.size + 1) 44 _ := ((blk_new' (w.alloc _) (g := w.heap.size + 1) (by simp) 44 _).alloc _).bl hb
  have hbz : Blk w1 (w.heap.size + 1 + 1) 34 _ := (blk_new' ((w.alloc _).alloc _) (g := w.heap.size + 1 + 1) (by simp) 34 _).bl hb
  have HB := Lib.hid (((((Below.refl w.heap.size w).alloc (Nat.le_refl _) _).alloc (by simp) _).alloc (by simp <;> omega) _).trans (hb.mono (by simp <;> omega)))
  clear hb
  have k0 := hbs.cell 0
  have k1 := hbs.cell 1
  have k2 := hbs.cell 2
  have k3 := hbs.cell 3
  have k4 := hbs.cell 4
  simp only [List.getElem?_toArray, List.getElem?_cons_succ, List.getElem?_cons_zero] at k0 k1 k2 k3 k4
  have l0 := hba.cell 0
  have l1 := hba.cell 1
  have l2 := hba.cell 2
  simp only [List.getElem?_toArray, List.getElem?_cons_succ, List.getElem?_cons_zero] at l0 l1 l2
  have z0 := hbz.cell 0
  have z1 := hbz.cell 1
  have z2 := hbz.cell 2
  have z3 := hbz.cell 3
  have z4 := hbz.cell 4
  simp only [List.getElem?_toArray, List.getElem?_cons_succ, List.getElem?_cons_zero] at z0 z1 z2 z3 z4
  have g0 := hbz.frozen 0
  have g1 := hbz.frozen 1
  have g2 := hbz.frozen 2
  have g3 := hbz.frozen 3
  have g4 := hbz.frozen 4
  have HS := Lib.hid hbs
  have HA := Lib.hid hba
  have HZ := Lib.hid hbz
  clear hbs hba hbz
  go_wp2_with fail
  refine (HF.out _).mono ?_; rintro e w2 ⟨rfl, hb2⟩
  have hbs := HS.out.bl hb2
  have hba := HA.out.bl hb2
  have hbz := HZ.out.bl hb2
  have HB2 := Lib.hid (bl HB.out hb2)
  have hsz : w.heap.size + 1 + 1 < w2.heap.size := hbz.lt
  clear hb2
  clear k0 k1 k2 k3 k4 l0 l1 l2 z0 z1 z2 z3 z4 g0 g1 g2 g3 g4
  have k0 := hbs.cell 0
  have k1 := hbs.cell 1
  have k2 := hbs.cell 2
  have k3 := hbs.cell 3
  have k4 := hbs.cell 4
  simp only [List.getElem?_toArray, List.getElem?_cons_succ, List.getElem?_cons_zero] at k0 k1 k2 k3 k4
  have l0 := hba.cell 0
  have l1 := hba.cell 1
  have l2 := hba.cell 2
  simp only [List.getElem?_toArray, List.getElem?_cons_succ, List.getElem?_cons_zero] at l0 l1 l2
  have z0 := hbz.cell 0
  have z1 := hbz.cell 1
  have z2 := hbz.cell 2
  have z3 := hbz.cell 3
  have z4 := hbz.cell 4
  simp only [List.getElem?_toArray, List.getElem?_cons_succ, List.getElem?_cons_zero] at z0 z1 z2 z3 z4
  have g0 := hbz.frozen 0
  have g1 := hbz.frozen 1
  have g2 := hbz.frozen 2
  have g3 := hbz.frozen 3
  have g4 := hbz.frozen 4
  have HS2 := Lib.hid hbs
  have HZ2 := Lib.hid hbz
  clear hbs hba hbz HS HA HZ HB HF
  have m0 : ¬ w.heap.size = w2.heap.size := by omega
  have m1 : ¬ w.heap.size + 1 = w2.heap.size := by omega
  have m2 : ¬ w.heap.size + 1 + 1 = w2.heap.size := by omega
  have m3 : w.heap.size < w2.heap.size := by omega
  have m4 : w.heap.size + 1 < w2.heap.size := by omega
  go_wp2_with fail
  (try simp only [Exit.inBlock, Exit.then])
  refine bodyPost_ret (v := .tuple #[.agg #[.int .i64 0, .int .i64 0, .bool false, .int .i64 0, .int .u64 0], .int .i64 21]) ?_ rfl ⟨rfl, (below_set5 HB2.out (by omega)).alloc (by simp [World.setCell]; omega) _⟩
  rw [results_cell_tmp rfl]; go_simp

set_option maxRecDepth 100000 in
set_option maxHeartbeats 8000000 in
theorem rd21ff (m so fl ep q am : Int) (af pb : Bool) (w : World)
    (HM : Hid (∀ (w : World), Calls Tryd.prog 44 #[.agg #[.int .i64 m, .int .i64 so, .bool false, .int .i64 fl, .int .u64 ep]] w fun e w' => e = .returned (.tuple #[.bool true, .bool pb]) ∧ Below w.heap.size w w')) (a0 : decide (q < 0) = false) (a1 : decide (3 < q) = false) (a2 : decide (am < 0) = false) (a3 : decide (7 < am) = false) (r0 : decide (q < so) = false) (HF : Hid (∀ W, Calls Tryd.prog 68 #[.int .i64 m, .int .i64 am] W fun e w' => e = .returned (.tuple #[.agg #[.int .i64 0, .int .i64 0, .int .i64 0, .int .i64 0], .bool false]) ∧ Below W.heap.size W w')) :
    Calls Tryd.prog 61 #[.agg #[.int .i64 m, .int .i64 so, .bool false, .int .i64 fl, .int .u64 ep], .agg #[.int .i64 q, .int .i64 am, .bool af]] w fun e w' => e = .returned (.tuple #[.agg #[.int .i64 0, .int .i64 0, .bool false, .int .i64 0, .int .u64 0], .int .i64 21]) ∧ Below w.heap.size w w' := by
  go_enter Tryd.func61, Tryd.ntmps61
  go_wp2_with fail
  refine (HM.out _).mono ?_; rintro e w1 ⟨rfl, hb⟩
  have hbs : Blk w1 w.heap.size 34 _ := (((Blk.new w 34 _).alloc _).alloc _).bl hb
  have hba : Blk w1 (w.heap.size + 1) 44 _ := ((blk_new' (w.alloc _) (g := w.heap.size + 1) (by simp) 44 _).alloc _).bl hb
  have hbz : Blk w1 (w.heap.size + 1 + 1) 34 _ := (blk_new' ((w.alloc _).alloc _) (g := w.heap.size + 1 + 1) (by simp) 34 _).bl hb
  have HB := Lib.hid (((((Below.refl w.heap.size w).alloc (Nat.le_refl _) _).alloc (by simp) _).alloc (by simp <;> omega) _).trans (hb.mono (by simp <;> omega)))
  clear hb
  have k0 := hbs.cell 0
  have k1 := hbs.cell 1
  have k2 := hbs.cell 2
  have k3 := hbs.cell 3
  have k4 := hbs.cell 4
  simp only [List.getElem?_toArray, List.getElem?_cons_succ, List.getElem?_cons_zero] at k0 k1 k2 k3 k4
  have l0 := hba.cell 0
  have l1 := hba.cell 1
  have l2 := hba.cell 2
  simp only [List.getElem?_toArray, List.getElem?_cons_succ, List.getElem?_cons_zero] at l0 l1 l2
  have z0 := hbz.cell 0
  have z1 := hbz.cell 1
  have z2 := hbz.cell 2
  have z3 := hbz.cell 3
  have z4 := hbz.cell 4
  simp only [List.getElem?_toArray, List.getElem?_cons_succ, List.getElem?_cons_zero] at z0 z1 z2 z3 z4
  have g0 := hbz.frozen 0
  have g1 := hbz.frozen 1
  have g2 := hbz.frozen 2
  have g3 := hbz.frozen 3
  have g4 := hbz.frozen 4
  have HS := Lib.hid hbs
  have HA := Lib.hid hba
  have HZ := Lib.hid hbz
  clear hbs hba hbz
  go_wp2_with fail
  refine (HF.out _).mono ?_; rintro e w2 ⟨rfl, hb2⟩
  have hbs := HS.out.bl hb2
  have hba := HA.out.bl hb2
  have hbz := HZ.out.bl hb2
  have HB2 := Lib.hid (bl HB.out hb2)
  have hsz : w.heap.size + 1 + 1 < w2.heap.size := hbz.lt
  clear hb2
  clear k0 k1 k2 k3 k4 l0 l1 l2 z0 z1 z2 z3 z4 g0 g1 g2 g3 g4
  have k0 := hbs.cell 0
  have k1 := hbs.cell 1
  have k2 := hbs.cell 2
  have k3 := hbs.cell 3
  have k4 := hbs.cell 4
  simp only [List.getElem?_toArray, List.getElem?_cons_succ, List.getElem?_cons_zero] at k0 k1 k2 k3 k4
  have l0 := hba.cell 0
  have l1 := hba.cell 1
  have l2 := hba.cell 2
  simp only [List.getElem?_toArray, List.getElem?_cons_succ, List.getElem?_cons_zero] at l0 l1 l2
  have z0 := hbz.cell 0
  have z1 := hbz.cell 1
  have z2 := hbz.cell 2
  have z3 := hbz.cell 3
  have z4 := hbz.cell 4
  simp only [List.getElem?_toArray, List.getElem?_cons_succ, List.getElem?_cons_zero] at z0 z1 z2 z3 z4
  have g0 := hbz.frozen 0
  have g1 := hbz.frozen 1
  have g2 := hbz.frozen 2
  have g3 := hbz.frozen 3
  have g4 := hbz.frozen 4
  have HS2 := Lib.hid hbs
  have HZ2 := Lib.hid hbz
  clear hbs hba hbz HS HA HZ HB HF
  have m0 : ¬ w.heap.size = w2.heap.size := by omega
  have m1 : ¬ w.heap.size + 1 = w2.heap.size := by omega
  have m2 : ¬ w.heap.size + 1 + 1 = w2.heap.size := by omega
  have m3 : w.heap.size < w2.heap.size := by omega
  have m4 : w.heap.size + 1 < w2.heap.size := by omega
  go_wp2_with fail
  (try simp only [Exit.inBlock, Exit.then])
  refine bodyPost_ret (v := .tuple #[.agg #[.int .i64 0, .int .i64 0, .bool false, .int .i64 0, .int .u64 0], .int .i64 21]) ?_ rfl ⟨rfl, (below_set5 HB2.out (by omega)).alloc (by simp [World.setCell]; omega) _⟩
  rw [results_cell_tmp rfl]; go_simp
end Go.Proofs.YtkmlikohgilnbaaDoor.Reg
