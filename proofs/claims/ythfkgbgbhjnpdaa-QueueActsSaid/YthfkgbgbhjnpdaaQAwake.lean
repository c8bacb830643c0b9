/-
  The law's own examples of package queue: they are true. No condition. By an AI agent.
-/
import Derived.Test.YthfkgbgbhjnpdaaPick
namespace Go.Proofs.Ythfkgbgbhjnpdaa.Queue
set_option linter.unusedVariables false
set_option linter.unusedSimpArgs false
open Go Go.RowKit Go.Proofs.Ythfkgbgbhjnpdaa.Base

theorem cur_ext {c : Cur} {a b d e : Int} (h1 : c.next = a) (h2 : c.cap = b) (h3 : c.got = d) (h4 : c.lost = e) : c = ⟨a, b, d, e⟩ := by cases c; simp_all
def c5 : Cur := ⟨5, 2, 0, 0⟩
theorem c5_ok : c5.Ok := ⟨by decide, by decide, by decide, by decide⟩
theorem ex_new (w : World) : Calls Try.prog 11 #[.int .u64 4, .int .i64 2] w fun e w' => e = .returned (.tuple #[.agg #[.int .u64 5, .int .i64 2, .int .u64 0, .int .u64 0], .int .i64 0]) ∧ Below w.heap.size w w' := New_in 4 2 (by decide) (by decide) (by decide) w
theorem ex_count5 (w : World) : Calls Try.prog 16 #[.agg #[.int .u64 5, .int .i64 2, .int .u64 0, .int .u64 0], .int .u64 5] w fun e w' => e = .returned (.int .i64 1) ∧ Below w.heap.size w w' := by
  have := Count_any c5 5 c5_ok (by decide) w
  rwa [show countC c5 5 = 1 by decide +kernel] at this
theorem ex_count8 (w : World) : Calls Try.prog 16 #[.agg #[.int .u64 5, .int .i64 2, .int .u64 0, .int .u64 0], .int .u64 8] w fun e w' => e = .returned (.int .i64 2) ∧ Below w.heap.size w w' := by
  have := Count_any c5 8 c5_ok (by decide) w
  rwa [show countC c5 8 = 2 by decide +kernel] at this
theorem ex_see8 (w : World) : Calls Try.prog 15 #[.agg #[.int .u64 5, .int .i64 2, .int .u64 0, .int .u64 0], .int .u64 8] w fun e w' => e = .returned (.tuple #[.agg #[.int .u64 7, .int .i64 2, .int .u64 0, .int .u64 2], .int .i64 0]) ∧ Below w.heap.size w w' := by
  have := See_any c5 8 c5_ok (by decide) w
  rwa [show mayE c5 8 = 0 by decide +kernel, show seeC c5 8 = ⟨7, 2, 0, 2⟩ from by
    have h1 : (seeC c5 8).next = 7 := by decide +kernel
    have h2 : (seeC c5 8).cap = 2 := by decide +kernel
    have h3 : (seeC c5 8).got = 0 := by decide +kernel
    have h4 : (seeC c5 8).lost = 2 := by decide +kernel
    exact cur_ext h1 h2 h3 h4] at this
theorem ex_take8 (w : World) : Calls Try.prog 13 #[.agg #[.int .u64 5, .int .i64 2, .int .u64 0, .int .u64 0], .int .u64 8] w fun e w' => e = .returned (.tuple #[.int .u64 7, .agg #[.int .u64 8, .int .i64 2, .int .u64 1, .int .u64 2], .int .i64 0]) ∧ Below w.heap.size w w' := by
  have := Take_any c5 8 c5_ok (by decide) w
  rwa [show takeE c5 8 = 0 by decide +kernel, show takeX c5 8 = 7 by decide +kernel, show takeC c5 8 = ⟨8, 2, 1, 2⟩ from by
    have h1 : (takeC c5 8).next = 8 := by decide +kernel
    have h2 : (takeC c5 8).cap = 2 := by decide +kernel
    have h3 : (takeC c5 8).got = 1 := by decide +kernel
    have h4 : (takeC c5 8).lost = 2 := by decide +kernel
    exact cur_ext h1 h2 h3 h4] at this
def exL (i : Nat) : Sub := ⟨0, if i = 0 then 1 else 3, c5⟩
theorem exL_ok (i : Nat) : (exL i).Ok := ⟨by unfold exL; simp only; split <;> decide, c5_ok⟩
theorem ex_best : best exL [5, 4, 5] 3 = 2 := by decide +kernel
theorem ex_is : PickIs 3 exL [5, 4, 5] 2 0 := .inr (.inr (.inr ⟨rfl, fun _ _ => by show c5.Right; decide, fun i hi => by
  match i, hi with
  | 0, _ => show (5 : Int) < _; decide
  | 1, _ => show (4 : Int) < _; decide
  | 2, _ => show (5 : Int) < _; decide, ex_best.symm, rfl⟩))
theorem subs18 {W : World} {g : Nat} (h : Blk W g 56 #[.int .i64 0, .int .i64 1, .int .u64 5, .int .i64 2, .int .u64 0, .int .u64 0, .int .i64 0, .int .i64 3, .int .u64 5, .int .i64 2, .int .u64 0, .int .u64 0, .int .i64 0, .int .i64 3, .int .u64 5, .int .i64 2, .int .u64 0, .int .u64 0]) : Subs W (.slice (some ⟨g, 0, none⟩) 3 3) 3 exL :=
  ⟨⟨_, 3, rfl, by simp [maxLen], fun _ => ⟨g, 0, rfl, h.lt, fun i hi => by
    match i, hi with
    | 0, _ => exact ⟨h.cell 0, h.cell 1, h.cell 2, h.cell 3, h.cell 4, h.cell 5⟩
    | 1, _ => exact ⟨h.cell 6, h.cell 7, h.cell 8, h.cell 9, h.cell 10, h.cell 11⟩
    | 2, _ => exact ⟨h.cell 12, h.cell 13, h.cell 14, h.cell 15, h.cell 16, h.cell 17⟩⟩⟩, fun i _ => exL_ok i⟩
theorem ints545 {W : World} {g : Nat} (h : Blk W g 22 #[.int .u64 5, .int .u64 4, .int .u64 5]) : Ints W .u64 (.slice (some ⟨g, 0, none⟩) 3 3) [5, 4, 5] :=
  ⟨_, 3, rfl, by simp [maxLen], fun _ => ⟨g, 0, rfl, h.lt, fun i hi => by
    match i, hi with
    | 0, _ => exact h.cell 0
    | 1, _ => exact h.cell 1
    | 2, _ => exact h.cell 2⟩⟩

set_option maxRecDepth 100000 in
set_option maxHeartbeats 4000000 in
theorem awake_any (w : World) :
    Calls Try.prog 10 #[] w fun e w' => e = .returned (.bool true) ∧ Below w.heap.size w w' := by
  have HN := Lib.hid ex_new
  have HC5 := Lib.hid ex_count5
  have HC8 := Lib.hid ex_count8
  have HS8 := Lib.hid ex_see8
  have HT8 := Lib.hid ex_take8
  go_enter Try.func10, Try.ntmps10
  go_wp2_with fail
  refine (HN.out _).mono ?_; rintro e w1 ⟨rfl, hb1⟩
  have L1 := Lib.hid hb1
  clear hb1
  have B1 := Lib.hid (Blk.new w1 27 #[.int .u64 5, .int .i64 2, .int .u64 0, .int .u64 0])
  have L2 := Lib.hid (L1.out.alloc L1.out.size (.cells #[.int .u64 5, .int .i64 2, .int .u64 0, .int .u64 0] 27))
  go_wp2_with fail
  refine (HC5.out _).mono ?_; rintro e w2 ⟨rfl, hb2⟩
  have B2 := Lib.hid (B1.out.bl hb2)
  have L3 := Lib.hid (bl L2.out hb2)
  clear hb2 B1 L2 L1
  generalize w1.heap.size = g at *
  have q0 := B2.out.cell 0
  have q1 := B2.out.cell 1
  have q2 := B2.out.cell 2
  have q3 := B2.out.cell 3
  simp only [List.getElem?_toArray, List.getElem?_cons_succ, List.getElem?_cons_zero] at q0 q1 q2 q3
  go_wp2_with fail
  refine (HC8.out _).mono ?_; rintro e w3 ⟨rfl, hb3⟩
  have B3 := Lib.hid (B2.out.bl hb3)
  have L4 := Lib.hid (bl L3.out hb3)
  clear q0 q1 q2 q3
  clear hb3 B2 L3
  have q0 := B3.out.cell 0
  have q1 := B3.out.cell 1
  have q2 := B3.out.cell 2
  have q3 := B3.out.cell 3
  simp only [List.getElem?_toArray, List.getElem?_cons_succ, List.getElem?_cons_zero] at q0 q1 q2 q3
  go_wp2_with fail
  refine (HS8.out _).mono ?_; rintro e w4 ⟨rfl, hb4⟩
  have B4 := Lib.hid ((B3.out.bl hb4).alloc (.cells #[.int .u64 7, .int .i64 2, .int .u64 0, .int .u64 2] 27))
  have D4 := Lib.hid (Blk.new w4 27 #[.int .u64 7, .int .i64 2, .int .u64 0, .int .u64 2])
  have L5 := Lib.hid ((bl L4.out hb4).alloc (bl L4.out hb4).size (.cells #[.int .u64 7, .int .i64 2, .int .u64 0, .int .u64 2] 27))
  have B4' := Lib.hid (B3.out.bl hb4)
  clear q0 q1 q2 q3
  clear hb4 B3 L4
  have q0 := B4'.out.cell 0
  have q1 := B4'.out.cell 1
  have q2 := B4'.out.cell 2
  have q3 := B4'.out.cell 3
  simp only [List.getElem?_toArray, List.getElem?_cons_succ, List.getElem?_cons_zero] at q0 q1 q2 q3
  have hgl : ¬ g = w4.heap.size := by have := B4'.out.lt; omega
  have hgl' : g < w4.heap.size := B4'.out.lt
  clear B4'
  go_wp2_with fail
  refine (HT8.out _).mono ?_; rintro e w5 ⟨rfl, hb5⟩
  have B5 := Lib.hid (B4.out.bl hb5)
  have D5 := Lib.hid (D4.out.bl hb5)
  have L6 := Lib.hid (bl L5.out hb5)
  clear q0 q1 q2 q3
  clear hb5 B4 D4 L5 hgl hgl'
  generalize w4.heap.size = g2 at *
  have q0 := B5.out.cell 0
  have q1 := B5.out.cell 1
  have q2 := B5.out.cell 2
  have q3 := B5.out.cell 3
  simp only [List.getElem?_toArray, List.getElem?_cons_succ, List.getElem?_cons_zero] at q0 q1 q2 q3
  have d0 := D5.out.cell 0
  have d1 := D5.out.cell 1
  have d2 := D5.out.cell 2
  have d3 := D5.out.cell 3
  simp only [List.getElem?_toArray, List.getElem?_cons_succ, List.getElem?_cons_zero] at d0 d1 d2 d3
  have hgl : ¬ g = w5.heap.size := by have := B5.out.lt; omega
  have hgl' : ¬ g2 = w5.heap.size := by have := D5.out.lt; omega
  have hgl2 : g < w5.heap.size := B5.out.lt
  have hgl3 : g2 < w5.heap.size := D5.out.lt
  go_wp2_with fail
  have hl0 := L6.out.size
  have hS : ∀ W : World, Blk W (w5.heap.size + 1) 56 #[.int .i64 0, .int .i64 1, .int .u64 5, .int .i64 2, .int .u64 0, .int .u64 0, .int .i64 0, .int .i64 3, .int .u64 5, .int .i64 2, .int .u64 0, .int .u64 0, .int .i64 0, .int .i64 3, .int .u64 5, .int .i64 2, .int .u64 0, .int .u64 0] → Subs W (.slice (some ⟨w5.heap.size + 1, 0, none⟩) 3 3) 3 exL := fun W h => subs18 h
  have hI : ∀ W : World, Blk W (w5.heap.size + 1 + 1) 22 #[.int .u64 5, .int .u64 4, .int .u64 5] → Ints W .u64 (.slice (some ⟨w5.heap.size + 1 + 1, 0, none⟩) 3 3) [5, 4, 5] := fun W h => ints545 h
  refine (Pick_any _ 3 exL _ [5, 4, 5] _ (hS _ ?_) (hI _ ?_) (by decide)).mono ?_
  · have := (Blk.new (w5.alloc (.cells #[.int .u64 8, .int .i64 2, .int .u64 1, .int .u64 2] 27)) 56 #[.int .i64 0, .int .i64 1, .int .u64 5, .int .i64 2, .int .u64 0, .int .u64 0, .int .i64 0, .int .i64 3, .int .u64 5, .int .i64 2, .int .u64 0, .int .u64 0, .int .i64 0, .int .i64 3, .int .u64 5, .int .i64 2, .int .u64 0, .int .u64 0]).alloc (.cells #[.int .u64 5, .int .u64 4, .int .u64 5] 22)
    rwa [World.size_alloc] at this
  · have := Blk.new ((w5.alloc (.cells #[.int .u64 8, .int .i64 2, .int .u64 1, .int .u64 2] 27)).alloc (.cells #[.int .i64 0, .int .i64 1, .int .u64 5, .int .i64 2, .int .u64 0, .int .u64 0, .int .i64 0, .int .i64 3, .int .u64 5, .int .i64 2, .int .u64 0, .int .u64 0, .int .i64 0, .int .i64 3, .int .u64 5, .int .i64 2, .int .u64 0, .int .u64 0] 56)) 22 #[.int .u64 5, .int .u64 4, .int .u64 5]
    rwa [World.size_alloc, World.size_alloc] at this
  · rintro e w6 ⟨x, er, rfl, hp, hb6⟩
    obtain ⟨rfl, rfl⟩ := PickIs.unique hp ex_is
    have L7 := bl (((L6.out.alloc hl0 (.cells #[.int .u64 8, .int .i64 2, .int .u64 1, .int .u64 2] 27)).alloc (by simp; omega) (.cells #[.int .i64 0, .int .i64 1, .int .u64 5, .int .i64 2, .int .u64 0, .int .u64 0, .int .i64 0, .int .i64 3, .int .u64 5, .int .i64 2, .int .u64 0, .int .u64 0, .int .i64 0, .int .i64 3, .int .u64 5, .int .i64 2, .int .u64 0, .int .u64 0] 56)).alloc (by simp; omega) (.cells #[.int .u64 5, .int .u64 4, .int .u64 5] 22)) hb6
    have L8 := Lib.hid L7
    clear hp hS hI L7 hb6
    go_wp2_with fail
    go_ret
    exact ⟨rfl, L8.out⟩
end Go.Proofs.Ythfkgbgbhjnpdaa.Queue
