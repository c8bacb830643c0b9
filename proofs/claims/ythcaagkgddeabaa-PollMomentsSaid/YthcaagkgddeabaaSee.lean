/-
  Package queue's See, Count and Take on any cursor. Conditions stand at each. By an AI agent.
-/
import Derived.Test.YthcaagkgddeabaaCur
namespace Go.Proofs.Ythcaagkgddeabaa.Queue
set_option linter.unusedVariables false
set_option linter.unusedSimpArgs false
open Go Go.RowKit Go.Proofs.Ythcaagkgddeabaa.Base

/-- See's world behind its first call: the cursor's box, the result's -/
structure Seeing (w : World) (nx cp gt ls : Int) (W : World) : Prop where
  box : Blk W w.heap.size 44 #[.int .u64 nx, .int .i64 cp, .int .u64 gt, .int .u64 ls]
  res : Blk W (w.heap.size + 1) 44 #[.int .u64 0, .int .i64 0, .int .u64 0, .int .u64 0]
  below : Below w.heap.size w W
theorem Seeing.start (w : World) (nx cp gt ls : Int) : Seeing w nx cp gt ls (((w.alloc (.cells #[.int .u64 nx, .int .i64 cp, .int .u64 gt, .int .u64 ls] 44)).alloc (.cells #[.int .u64 0, .int .i64 0, .int .u64 0, .int .u64 0] 44)).alloc (.cells #[.int .u64 nx, .int .i64 cp, .int .u64 gt, .int .u64 ls] 44)).drew :=
  ⟨((Blk.new w _ _).alloc _).alloc _, by
    have := (Blk.new (w.alloc (.cells #[.int .u64 nx, .int .i64 cp, .int .u64 gt, .int .u64 ls] 44)) 44 #[.int .u64 0, .int .i64 0, .int .u64 0, .int .u64 0]).alloc (.cells #[.int .u64 nx, .int .i64 cp, .int .u64 gt, .int .u64 ls] 44)
    rwa [World.size_alloc] at this,
   ((((Below.refl _ _).alloc (Nat.le_refl _) _).alloc (by simp) _).alloc (by simp; omega) _).drew⟩

set_option maxRecDepth 100000 in
set_option maxHeartbeats 4000000 in
theorem See_any (c : Cur) (g : Int) (hc : c.Ok) (hg : 0 ≤ g ∧ g ≤ 18446744073709551615) (w : World) :
    Calls Try.prog 67 #[c.val, .int .u64 g] w fun e w' => e = .returned (.tuple #[(seeC c g).val, .int .i64 (mayE c g)]) ∧ Below w.heap.size w w' := by
  obtain ⟨nx, cp, gt, ls⟩ := c
  obtain ⟨⟨n0, n1⟩, ⟨p0, p1⟩, ⟨g0, g1⟩, ⟨l0, l1⟩⟩ := hc
  simp only at n0 n1 p0 p1 g0 g1 l0 l1
  obtain ⟨hg0, hg1⟩ := hg
  have hR := right_any ⟨nx, cp, gt, ls⟩
  unfold Cur.val at hR
  simp only at hR
  by_cases hr : Cur.Right ⟨nx, cp, gt, ls⟩
  · rw [decide_eq_true hr] at hR
    have hr' := hr
    obtain ⟨⟨r1, r2⟩, r3⟩ := hr'
    simp only at r1 r2 r3
    by_cases hi : Is g
    · have e0 : mayE ⟨nx, cp, gt, ls⟩ g = 0 := by unfold mayE; rw [if_pos hr, if_pos hi]
      have hi' : g < 9223372036854775808 := hi
      have k1 : decide (9223372036854775808 ≤ g) = false := decide_eq_false (by omega)
      unfold seeC
      rw [e0, if_pos rfl]
      unfold seen
      simp only
      have HR := Lib.hid hR
      clear hR hr e0 hi
      by_cases hlt : g < nx
      · rw [if_pos hlt]
        have k2 : decide (g < nx) = true := decide_eq_true hlt
        unfold Cur.val
        go_enter Try.func67, Try.ntmps67
        go_wp2_with fail
        refine (HR.out _).mono ?_; rintro e w' ⟨rfl, rfl⟩
        go_wp2_with fail
        (try simp only [Exit.inBlock, Exit.then])
        refine bodyPost_ret (v := .tuple #[.agg #[.int .u64 nx, .int .i64 cp, .int .u64 gt, .int .u64 ls], .int .i64 0]) ?_ rfl ⟨rfl, ?_⟩
        · rw [results_cell_tmp rfl]; go_simp
        · (repeat (first | refine Below.setCell ?_ (by simp <;> omega) _ | refine Below.alloc ?_ (by simp <;> omega) _ | exact Below.refl _ _))
      · rw [if_neg hlt]
        have k2 : decide (g < nx) = false := decide_eq_false hlt
        by_cases hw : g - nx + 1 > cp
        · rw [if_pos hw]
          have k3 : decide (cp < g - nx + 1) = true := decide_eq_true (by omega)
          have k4 : nx + (g - nx + 1 - cp) = g - cp + 1 := by omega
          rw [← k4]
          clear k4
          unfold Cur.val
          go_enter Try.func67, Try.ntmps67
          go_wp2_with fail
          refine (HR.out _).mono ?_; rintro e w' ⟨rfl, rfl⟩
          go_wp2_with fail
          have hnonempty : Nonempty (Held (Seeing w nx cp gt ls)) := ⟨⟨_, Seeing.start w nx cp gt ls⟩⟩
          have m0 : ∀ x : Held (Seeing w nx cp gt ls), x.w.cell? ⟨w.heap.size, 0, none⟩ = some (.int .u64 nx) := fun x => x.ok.box.cell 0
          have m1 : ∀ x : Held (Seeing w nx cp gt ls), x.w.cell? ⟨w.heap.size, 1, none⟩ = some (.int .i64 cp) := fun x => x.ok.box.cell 1
          refine drawn_held (S := Seeing w nx cp gt ls) (by kernel_rfl) (by kernel_rfl) (Seeing.start w nx cp gt ls) ?_
          repeat (go_big_quiet_step (fail))
          refine wpQuiet_nil ?_
          intro w3 hw'; obtain ⟨⟨w3', S3⟩, hw''⟩ := hw'; dsimp only at hw''; subst hw''
          clear m0 m1 hnonempty
          have B3 := (S3.box.set_ 0 (.int .u64 (nx + (g - nx + 1 - cp)))).set_ 3 (.int .u64 (IntKind.u64.wrap (ls + (g - nx + 1 - cp))))
          simp only [List.setIfInBounds_toArray, List.set_cons_zero, List.set_cons_succ] at B3
          have R3 := (S3.res.far (p := ⟨w.heap.size, 0, none⟩) (by simp) (.int .u64 (nx + (g - nx + 1 - cp)))).far (p := ⟨w.heap.size, 3, none⟩) (by simp) (.int .u64 (IntKind.u64.wrap (ls + (g - nx + 1 - cp))))
          have L3 := Lib.hid ((S3.below.setCell (p := ⟨w.heap.size, 0, none⟩) (Nat.le_refl _) (.int .u64 (nx + (g - nx + 1 - cp)))).setCell (p := ⟨w.heap.size, 3, none⟩) (Nat.le_refl _) (.int .u64 (IntKind.u64.wrap (ls + (g - nx + 1 - cp)))))
          have x0 := S3.box.cell 0
          have x3 := S3.box.cell 3
          have f0 := S3.box.frozen 0
          have f3 := S3.box.frozen 3
          have x1 := S3.box.cell 1
          have x2 := S3.box.cell 2
          have q0 := S3.res.cell 0
          have q1 := S3.res.cell 1
          have q2 := S3.res.cell 2
          have q3 := S3.res.cell 3
          have u0 := S3.res.frozen 0
          have u1 := S3.res.frozen 1
          have u2 := S3.res.frozen 2
          have u3 := S3.res.frozen 3
          simp only [List.getElem?_toArray, List.getElem?_cons_succ, List.getElem?_cons_zero] at x0 x1 x2 x3 q0 q1 q2 q3
          have d0 := B3.cell 0
          have d1 := B3.cell 1
          have d2 := B3.cell 2
          have d3 := B3.cell 3
          have y0 := R3.cell 0
          have y1 := R3.cell 1
          have y2 := R3.cell 2
          have y3 := R3.cell 3
          have z0 := R3.frozen 0
          have z1 := R3.frozen 1
          have z2 := R3.frozen 2
          have z3 := R3.frozen 3
          have S4 := Lib.hid S3
          simp only [List.getElem?_toArray, List.getElem?_cons_succ, List.getElem?_cons_zero] at d0 d1 d2 d3 y0 y1 y2 y3
          clear B3 R3 S3
          go_wp2_with fail
          (try simp only [Exit.inBlock, Exit.then])
          refine bodyPost_ret (v := .tuple #[.agg #[.int .u64 (nx + (g - nx + 1 - cp)), .int .i64 cp, .int .u64 gt, .int .u64 (IntKind.u64.wrap (ls + (g - nx + 1 - cp)))], .int .i64 0]) ?_ rfl ⟨rfl, ?_⟩
          · rw [results_cell_tmp rfl]; go_simp
          · exact (((L3.out.setCell (p := ⟨w.heap.size + 1, 0, none⟩) (Nat.le_succ _) _).setCell (p := ⟨w.heap.size + 1, 1, none⟩) (Nat.le_succ _) _).setCell (p := ⟨w.heap.size + 1, 2, none⟩) (Nat.le_succ _) _).setCell (p := ⟨w.heap.size + 1, 3, none⟩) (Nat.le_succ _) _
        · rw [if_neg hw]
          have k3 : decide (cp < g - nx + 1) = false := decide_eq_false (by omega)
          unfold Cur.val
          go_enter Try.func67, Try.ntmps67
          go_wp2_with fail
          refine (HR.out _).mono ?_; rintro e w' ⟨rfl, rfl⟩
          go_wp2_with fail
          go_quiet (fail)
          go_wp2_with fail
          (try simp only [Exit.inBlock, Exit.then])
          refine bodyPost_ret (v := .tuple #[.agg #[.int .u64 nx, .int .i64 cp, .int .u64 gt, .int .u64 ls], .int .i64 0]) ?_ rfl ⟨rfl, ?_⟩
          · rw [results_cell_tmp rfl]; go_simp
          · (repeat (first | refine Below.setCell ?_ (by simp <;> omega) _ | refine Below.alloc ?_ (by simp <;> omega) _ | refine below_drewN ?_ _ | exact Below.refl _ _))
    · have e0 : mayE ⟨nx, cp, gt, ls⟩ g = 10 := by unfold mayE; rw [if_pos hr, if_neg hi]
      have hi' : ¬ g < 9223372036854775808 := hi
      have k1 : decide (9223372036854775808 ≤ g) = true := decide_eq_true (by omega)
      unfold seeC
      rw [e0, if_neg (by decide)]
      have HR := Lib.hid hR
      clear hR hr e0 hi
      unfold Cur.val
      go_enter Try.func67, Try.ntmps67
      go_wp2_with fail
      refine (HR.out _).mono ?_; rintro e w' ⟨rfl, rfl⟩
      go_wp2_with fail
      (try simp only [Exit.inBlock, Exit.then])
      refine bodyPost_ret (v := .tuple #[Cur.zero.val, .int .i64 10]) ?_ rfl ⟨rfl, ?_⟩
      · rw [results_cell_tmp rfl]; go_simp; rfl
      · (repeat (first | refine Below.setCell ?_ (by simp <;> omega) _ | refine Below.alloc ?_ (by simp <;> omega) _ | exact Below.refl _ _))
  · have e0 : mayE ⟨nx, cp, gt, ls⟩ g = 1 := by unfold mayE; rw [if_neg hr]
    rw [decide_eq_false hr] at hR
    unfold seeC
    rw [e0, if_neg (by decide)]
    have HR := Lib.hid hR
    clear hR hr e0
    unfold Cur.val
    go_enter Try.func67, Try.ntmps67
    go_wp2_with fail
    refine (HR.out _).mono ?_; rintro e w' ⟨rfl, rfl⟩
    go_wp2_with fail
    (try simp only [Exit.inBlock, Exit.then])
    refine bodyPost_ret (v := .tuple #[Cur.zero.val, .int .i64 1]) ?_ rfl ⟨rfl, ?_⟩
    · rw [results_cell_tmp rfl]; go_simp; rfl
    · (repeat (first | refine Below.setCell ?_ (by simp <;> omega) _ | refine Below.alloc ?_ (by simp <;> omega) _ | exact Below.refl _ _))


theorem seeC_right {c : Cur} {g : Int} (h : mayE c g = 0) : c.Right ∧ Is g := by
  unfold mayE at h
  split at h
  · split at h
    · exact ⟨by assumption, by assumption⟩
    · omega
  · omega
theorem mayE_yes {c : Cur} {g : Int} (h1 : c.Right) (h2 : Is g) : mayE c g = 0 := by unfold mayE; rw [if_pos h1, if_pos h2]
theorem seen_ok {c : Cur} {g : Int} (hr : c.Right) (hc : c.Ok) (hg : 0 ≤ g) (hi : Is g) : (seen c g).Ok := by
  unfold seen
  obtain ⟨⟨r1, r2⟩, r3⟩ := hr
  obtain ⟨a, b, d, e⟩ := hc
  unfold Is at hi
  split
  · exact ⟨a, b, d, e⟩
  · split
    · exact ⟨by simp only; omega, b, d, u64_wrap_range _⟩
    · exact ⟨a, b, d, e⟩
theorem seen_right {c : Cur} {g : Int} (hr : c.Right) (hi : Is g) : (seen c g).Right := by
  unfold seen
  have hr' := hr
  obtain ⟨⟨r1, r2⟩, r3⟩ := hr'
  unfold Is at hi
  split
  · exact hr
  · split
    · exact ⟨⟨r1, r2⟩, by simp only; omega⟩
    · exact hr
theorem seen_waits {c : Cur} {g : Int} (hr : c.Right) (hc : c.Ok) (hg : 0 ≤ g) : 0 ≤ waits (seen c g) g ∧ waits (seen c g) g ≤ c.cap := by
  obtain ⟨⟨r1, r2⟩, r3⟩ := hr
  obtain ⟨a, b, d, e⟩ := hc
  unfold seen
  split
  · unfold waits; rw [if_pos (by assumption)]; omega
  · split
    · unfold waits; simp only; split <;> omega
    · unfold waits; split <;> omega
theorem zero_ok : Cur.zero.Ok := ⟨by decide, by decide, by decide, by decide⟩
theorem seeC_ok {c : Cur} {g : Int} (hc : c.Ok) (hg : 0 ≤ g) : (seeC c g).Ok := by
  unfold seeC
  split
  · rename_i h
    obtain ⟨h1, h2⟩ := seeC_right h
    exact seen_ok h1 hc hg h2
  · exact zero_ok

end Go.Proofs.Ythcaagkgddeabaa.Queue
