/-
  QueueLazy: the walk where a cursor is refused. Conditions stand at each. By an AI agent.
-/
import Derived.Test.YthfkgbgbhjnpdaaLazyP
namespace Go.Proofs.Ythfkgbgbhjnpdaa.Queue
set_option linter.unusedVariables false
set_option linter.unusedSimpArgs false
open Go Go.RowKit Go.Proofs.Ythfkgbgbhjnpdaa.Base

set_option maxRecDepth 100000 in
set_option maxHeartbeats 4000000 in
theorem lazy_bad (c : Cur) (a b lo hi : Int) (one two : Cur) (hlh : (¬ a > b ∧ lo = a ∧ hi = b) ∨ (a > b ∧ hi = a ∧ lo = b)) (w : World)
    (HS1 : ∀ w, Calls Try.prog 15 #[c.val, .int .u64 lo] w fun e w' => e = .returned (.tuple #[.agg #[.int .u64 0, .int .i64 0, .int .u64 0, .int .u64 0], .int .i64 1]) ∧ Below w.heap.size w w')
    (HS2 : ∀ w, Calls Try.prog 15 #[c.val, .int .u64 hi] w fun e w' => e = .returned (.tuple #[.agg #[.int .u64 0, .int .i64 0, .int .u64 0, .int .u64 0], .int .i64 1]) ∧ Below w.heap.size w w') :
    Calls Try.prog 5 #[c.val, .int .u64 a, .int .u64 b] w fun e w' => e = .returned (.bool true) ∧ Below w.heap.size w w' := by
  have HA := Lib.hid HS1
  have HB := Lib.hid HS2
  clear HS1 HS2
  rcases hlh with ⟨hab, e1, e2⟩ | ⟨hab, e1, e2⟩
  · have hab2 : decide (b < a) = false := decide_eq_false (by omega)
    subst e1 e2
    unfold Cur.val at *
    go_enter Try.func5, Try.ntmps5
    have B00 := Lib.hid (Blk.new w 27 #[.int .u64 c.next, .int .i64 c.cap, .int .u64 c.got, .int .u64 c.lost])
    have L0 := Lib.hid ((Below.refl w.heap.size w).alloc (Nat.le_refl _) (.cells #[.int .u64 c.next, .int .i64 c.cap, .int .u64 c.got, .int .u64 c.lost] 27))
    go_wp2_with fail
    refine (HA.out _).mono ?_; rintro e wq1 ⟨rfl, hb1⟩
    have Bc1 := Lib.hid (B00.out.bl hb1)
    have L1 := Lib.hid (bl L0.out hb1)
    clear hb1 B00 L0
    have cq0 := Bc1.out.cell 0
    have cq1 := Bc1.out.cell 1
    have cq2 := Bc1.out.cell 2
    have cq3 := Bc1.out.cell 3
    simp only [List.getElem?_toArray, List.getElem?_cons_succ, List.getElem?_cons_zero] at cq0 cq1 cq2 cq3
    have cn1 : ¬ w.heap.size = wq1.heap.size := by have := Bc1.out.lt; omega
    have cn2 : w.heap.size < wq1.heap.size := Bc1.out.lt
    have Ac1 := Lib.hid (Bc1.out.alloc (.cells #[.int .u64 0, .int .i64 0, .int .u64 0, .int .u64 0] 27))
    have Ao1 := Lib.hid (Blk.new wq1 27 #[.int .u64 0, .int .i64 0, .int .u64 0, .int .u64 0])
    have M1 := Lib.hid (L1.out.alloc L1.out.size (.cells #[.int .u64 0, .int .i64 0, .int .u64 0, .int .u64 0] 27))
    clear Bc1 L1
    go_wp2_with fail
    refine (HB.out _).mono ?_; rintro e wq2 ⟨rfl, hb2⟩
    have Bc2 := Lib.hid (Ac1.out.bl hb2)
    have Bo2 := Lib.hid (Ao1.out.bl hb2)
    have L2 := Lib.hid (bl M1.out hb2)
    clear cq0 cq1 cq2 cq3 cn1 cn2
    clear hb2 Ac1 Ao1 M1
    generalize wq1.heap.size = go at *
    have cq0 := Bc2.out.cell 0
    have cq1 := Bc2.out.cell 1
    have cq2 := Bc2.out.cell 2
    have cq3 := Bc2.out.cell 3
    simp only [List.getElem?_toArray, List.getElem?_cons_succ, List.getElem?_cons_zero] at cq0 cq1 cq2 cq3
    have oq0 := Bo2.out.cell 0
    have oq1 := Bo2.out.cell 1
    have oq2 := Bo2.out.cell 2
    have oq3 := Bo2.out.cell 3
    simp only [List.getElem?_toArray, List.getElem?_cons_succ, List.getElem?_cons_zero] at oq0 oq1 oq2 oq3
    have cn1 : ¬ w.heap.size = wq2.heap.size := by have := Bc2.out.lt; omega
    have cn2 : w.heap.size < wq2.heap.size := Bc2.out.lt
    have on1 : ¬ go = wq2.heap.size := by have := Bo2.out.lt; omega
    have on2 : go < wq2.heap.size := Bo2.out.lt
    have Ac2 := Lib.hid (Bc2.out.alloc (.cells #[.int .u64 0, .int .i64 0, .int .u64 0, .int .u64 0] 27))
    have Ao2 := Lib.hid (Bo2.out.alloc (.cells #[.int .u64 0, .int .i64 0, .int .u64 0, .int .u64 0] 27))
    have At2 := Lib.hid (Blk.new wq2 27 #[.int .u64 0, .int .i64 0, .int .u64 0, .int .u64 0])
    have M2 := Lib.hid (L2.out.alloc L2.out.size (.cells #[.int .u64 0, .int .i64 0, .int .u64 0, .int .u64 0] 27))
    clear Bc2 Bo2 L2
    go_wp2_with fail
    refine (awake_any _).mono ?_; rintro e wq3 ⟨rfl, hb3⟩
    have Bc3 := Lib.hid (Ac2.out.bl hb3)
    have Bo3 := Lib.hid (Ao2.out.bl hb3)
    have Bt3 := Lib.hid (At2.out.bl hb3)
    have L3 := Lib.hid (bl M2.out hb3)
    clear cq0 cq1 cq2 cq3 oq0 oq1 oq2 oq3 cn1 cn2 on1 on2
    clear hb3 Ac2 Ao2 At2 M2
    generalize wq2.heap.size = gt at *
    have cq0 := Bc3.out.cell 0
    have cq1 := Bc3.out.cell 1
    have cq2 := Bc3.out.cell 2
    have cq3 := Bc3.out.cell 3
    simp only [List.getElem?_toArray, List.getElem?_cons_succ, List.getElem?_cons_zero] at cq0 cq1 cq2 cq3
    have oq0 := Bo3.out.cell 0
    have oq1 := Bo3.out.cell 1
    have oq2 := Bo3.out.cell 2
    have oq3 := Bo3.out.cell 3
    simp only [List.getElem?_toArray, List.getElem?_cons_succ, List.getElem?_cons_zero] at oq0 oq1 oq2 oq3
    have tq0 := Bt3.out.cell 0
    have tq1 := Bt3.out.cell 1
    have tq2 := Bt3.out.cell 2
    have tq3 := Bt3.out.cell 3
    simp only [List.getElem?_toArray, List.getElem?_cons_succ, List.getElem?_cons_zero] at tq0 tq1 tq2 tq3
    go_wp2_with fail
    go_ret
    exact ⟨rfl, L3.out⟩
  · have hab2 : decide (b < a) = true := decide_eq_true (by omega)
    subst e1 e2
    unfold Cur.val at *
    go_enter Try.func5, Try.ntmps5
    have B00 := Lib.hid (Blk.new w 27 #[.int .u64 c.next, .int .i64 c.cap, .int .u64 c.got, .int .u64 c.lost])
    have L0 := Lib.hid ((Below.refl w.heap.size w).alloc (Nat.le_refl _) (.cells #[.int .u64 c.next, .int .i64 c.cap, .int .u64 c.got, .int .u64 c.lost] 27))
    go_wp2_with fail
    refine (HA.out _).mono ?_; rintro e wq1 ⟨rfl, hb1⟩
    have Bc1 := Lib.hid (B00.out.bl hb1)
    have L1 := Lib.hid (bl L0.out hb1)
    clear hb1 B00 L0
    have cq0 := Bc1.out.cell 0
    have cq1 := Bc1.out.cell 1
    have cq2 := Bc1.out.cell 2
    have cq3 := Bc1.out.cell 3
    simp only [List.getElem?_toArray, List.getElem?_cons_succ, List.getElem?_cons_zero] at cq0 cq1 cq2 cq3
    have cn1 : ¬ w.heap.size = wq1.heap.size := by have := Bc1.out.lt; omega
    have cn2 : w.heap.size < wq1.heap.size := Bc1.out.lt
    have Ac1 := Lib.hid (Bc1.out.alloc (.cells #[.int .u64 0, .int .i64 0, .int .u64 0, .int .u64 0] 27))
    have Ao1 := Lib.hid (Blk.new wq1 27 #[.int .u64 0, .int .i64 0, .int .u64 0, .int .u64 0])
    have M1 := Lib.hid (L1.out.alloc L1.out.size (.cells #[.int .u64 0, .int .i64 0, .int .u64 0, .int .u64 0] 27))
    clear Bc1 L1
    go_wp2_with fail
    refine (HB.out _).mono ?_; rintro e wq2 ⟨rfl, hb2⟩
    have Bc2 := Lib.hid (Ac1.out.bl hb2)
    have Bo2 := Lib.hid (Ao1.out.bl hb2)
    have L2 := Lib.hid (bl M1.out hb2)
    clear cq0 cq1 cq2 cq3 cn1 cn2
    clear hb2 Ac1 Ao1 M1
    generalize wq1.heap.size = go at *
    have cq0 := Bc2.out.cell 0
    have cq1 := Bc2.out.cell 1
    have cq2 := Bc2.out.cell 2
    have cq3 := Bc2.out.cell 3
    simp only [List.getElem?_toArray, List.getElem?_cons_succ, List.getElem?_cons_zero] at cq0 cq1 cq2 cq3
    have oq0 := Bo2.out.cell 0
    have oq1 := Bo2.out.cell 1
    have oq2 := Bo2.out.cell 2
    have oq3 := Bo2.out.cell 3
    simp only [List.getElem?_toArray, List.getElem?_cons_succ, List.getElem?_cons_zero] at oq0 oq1 oq2 oq3
    have cn1 : ¬ w.heap.size = wq2.heap.size := by have := Bc2.out.lt; omega
    have cn2 : w.heap.size < wq2.heap.size := Bc2.out.lt
    have on1 : ¬ go = wq2.heap.size := by have := Bo2.out.lt; omega
    have on2 : go < wq2.heap.size := Bo2.out.lt
    have Ac2 := Lib.hid (Bc2.out.alloc (.cells #[.int .u64 0, .int .i64 0, .int .u64 0, .int .u64 0] 27))
    have Ao2 := Lib.hid (Bo2.out.alloc (.cells #[.int .u64 0, .int .i64 0, .int .u64 0, .int .u64 0] 27))
    have At2 := Lib.hid (Blk.new wq2 27 #[.int .u64 0, .int .i64 0, .int .u64 0, .int .u64 0])
    have M2 := Lib.hid (L2.out.alloc L2.out.size (.cells #[.int .u64 0, .int .i64 0, .int .u64 0, .int .u64 0] 27))
    clear Bc2 Bo2 L2
    go_wp2_with fail
    refine (awake_any _).mono ?_; rintro e wq3 ⟨rfl, hb3⟩
    have Bc3 := Lib.hid (Ac2.out.bl hb3)
    have Bo3 := Lib.hid (Ao2.out.bl hb3)
    have Bt3 := Lib.hid (At2.out.bl hb3)
    have L3 := Lib.hid (bl M2.out hb3)
    clear cq0 cq1 cq2 cq3 oq0 oq1 oq2 oq3 cn1 cn2 on1 on2
    clear hb3 Ac2 Ao2 At2 M2
    generalize wq2.heap.size = gt at *
    have cq0 := Bc3.out.cell 0
    have cq1 := Bc3.out.cell 1
    have cq2 := Bc3.out.cell 2
    have cq3 := Bc3.out.cell 3
    simp only [List.getElem?_toArray, List.getElem?_cons_succ, List.getElem?_cons_zero] at cq0 cq1 cq2 cq3
    have oq0 := Bo3.out.cell 0
    have oq1 := Bo3.out.cell 1
    have oq2 := Bo3.out.cell 2
    have oq3 := Bo3.out.cell 3
    simp only [List.getElem?_toArray, List.getElem?_cons_succ, List.getElem?_cons_zero] at oq0 oq1 oq2 oq3
    have tq0 := Bt3.out.cell 0
    have tq1 := Bt3.out.cell 1
    have tq2 := Bt3.out.cell 2
    have tq3 := Bt3.out.cell 3
    simp only [List.getElem?_toArray, List.getElem?_cons_succ, List.getElem?_cons_zero] at tq0 tq1 tq2 tq3
    go_wp2_with fail
    go_ret
    exact ⟨rfl, L3.out⟩

set_option maxRecDepth 100000 in
set_option maxHeartbeats 4000000 in
theorem lazy_far (c : Cur) (a b lo hi : Int) (one two : Cur) (hlh : (¬ a > b ∧ lo = a ∧ hi = b) ∨ (a > b ∧ hi = a ∧ lo = b)) (w : World)
    (HS1 : ∀ w, Calls Try.prog 15 #[c.val, .int .u64 lo] w fun e w' => e = .returned (.tuple #[.agg #[.int .u64 0, .int .i64 0, .int .u64 0, .int .u64 0], .int .i64 10]) ∧ Below w.heap.size w w')
    (HS2 : ∀ w, Calls Try.prog 15 #[c.val, .int .u64 hi] w fun e w' => e = .returned (.tuple #[.agg #[.int .u64 0, .int .i64 0, .int .u64 0, .int .u64 0], .int .i64 10]) ∧ Below w.heap.size w w') :
    Calls Try.prog 5 #[c.val, .int .u64 a, .int .u64 b] w fun e w' => e = .returned (.bool true) ∧ Below w.heap.size w w' := by
  have HA := Lib.hid HS1
  have HB := Lib.hid HS2
  clear HS1 HS2
  rcases hlh with ⟨hab, e1, e2⟩ | ⟨hab, e1, e2⟩
  · have hab2 : decide (b < a) = false := decide_eq_false (by omega)
    subst e1 e2
    unfold Cur.val at *
    go_enter Try.func5, Try.ntmps5
    have B00 := Lib.hid (Blk.new w 27 #[.int .u64 c.next, .int .i64 c.cap, .int .u64 c.got, .int .u64 c.lost])
    have L0 := Lib.hid ((Below.refl w.heap.size w).alloc (Nat.le_refl _) (.cells #[.int .u64 c.next, .int .i64 c.cap, .int .u64 c.got, .int .u64 c.lost] 27))
    go_wp2_with fail
    refine (HA.out _).mono ?_; rintro e wq1 ⟨rfl, hb1⟩
    have Bc1 := Lib.hid (B00.out.bl hb1)
    have L1 := Lib.hid (bl L0.out hb1)
    clear hb1 B00 L0
    have cq0 := Bc1.out.cell 0
    have cq1 := Bc1.out.cell 1
    have cq2 := Bc1.out.cell 2
    have cq3 := Bc1.out.cell 3
    simp only [List.getElem?_toArray, List.getElem?_cons_succ, List.getElem?_cons_zero] at cq0 cq1 cq2 cq3
    have cn1 : ¬ w.heap.size = wq1.heap.size := by have := Bc1.out.lt; omega
    have cn2 : w.heap.size < wq1.heap.size := Bc1.out.lt
    have Ac1 := Lib.hid (Bc1.out.alloc (.cells #[.int .u64 0, .int .i64 0, .int .u64 0, .int .u64 0] 27))
    have Ao1 := Lib.hid (Blk.new wq1 27 #[.int .u64 0, .int .i64 0, .int .u64 0, .int .u64 0])
    have M1 := Lib.hid (L1.out.alloc L1.out.size (.cells #[.int .u64 0, .int .i64 0, .int .u64 0, .int .u64 0] 27))
    clear Bc1 L1
    go_wp2_with fail
    refine (HB.out _).mono ?_; rintro e wq2 ⟨rfl, hb2⟩
    have Bc2 := Lib.hid (Ac1.out.bl hb2)
    have Bo2 := Lib.hid (Ao1.out.bl hb2)
    have L2 := Lib.hid (bl M1.out hb2)
    clear cq0 cq1 cq2 cq3 cn1 cn2
    clear hb2 Ac1 Ao1 M1
    generalize wq1.heap.size = go at *
    have cq0 := Bc2.out.cell 0
    have cq1 := Bc2.out.cell 1
    have cq2 := Bc2.out.cell 2
    have cq3 := Bc2.out.cell 3
    simp only [List.getElem?_toArray, List.getElem?_cons_succ, List.getElem?_cons_zero] at cq0 cq1 cq2 cq3
    have oq0 := Bo2.out.cell 0
    have oq1 := Bo2.out.cell 1
    have oq2 := Bo2.out.cell 2
    have oq3 := Bo2.out.cell 3
    simp only [List.getElem?_toArray, List.getElem?_cons_succ, List.getElem?_cons_zero] at oq0 oq1 oq2 oq3
    have cn1 : ¬ w.heap.size = wq2.heap.size := by have := Bc2.out.lt; omega
    have cn2 : w.heap.size < wq2.heap.size := Bc2.out.lt
    have on1 : ¬ go = wq2.heap.size := by have := Bo2.out.lt; omega
    have on2 : go < wq2.heap.size := Bo2.out.lt
    have Ac2 := Lib.hid (Bc2.out.alloc (.cells #[.int .u64 0, .int .i64 0, .int .u64 0, .int .u64 0] 27))
    have Ao2 := Lib.hid (Bo2.out.alloc (.cells #[.int .u64 0, .int .i64 0, .int .u64 0, .int .u64 0] 27))
    have At2 := Lib.hid (Blk.new wq2 27 #[.int .u64 0, .int .i64 0, .int .u64 0, .int .u64 0])
    have M2 := Lib.hid (L2.out.alloc L2.out.size (.cells #[.int .u64 0, .int .i64 0, .int .u64 0, .int .u64 0] 27))
    clear Bc2 Bo2 L2
    go_wp2_with fail
    refine (awake_any _).mono ?_; rintro e wq3 ⟨rfl, hb3⟩
    have Bc3 := Lib.hid (Ac2.out.bl hb3)
    have Bo3 := Lib.hid (Ao2.out.bl hb3)
    have Bt3 := Lib.hid (At2.out.bl hb3)
    have L3 := Lib.hid (bl M2.out hb3)
    clear cq0 cq1 cq2 cq3 oq0 oq1 oq2 oq3 cn1 cn2 on1 on2
    clear hb3 Ac2 Ao2 At2 M2
    generalize wq2.heap.size = gt at *
    have cq0 := Bc3.out.cell 0
    have cq1 := Bc3.out.cell 1
    have cq2 := Bc3.out.cell 2
    have cq3 := Bc3.out.cell 3
    simp only [List.getElem?_toArray, List.getElem?_cons_succ, List.getElem?_cons_zero] at cq0 cq1 cq2 cq3
    have oq0 := Bo3.out.cell 0
    have oq1 := Bo3.out.cell 1
    have oq2 := Bo3.out.cell 2
    have oq3 := Bo3.out.cell 3
    simp only [List.getElem?_toArray, List.getElem?_cons_succ, List.getElem?_cons_zero] at oq0 oq1 oq2 oq3
    have tq0 := Bt3.out.cell 0
    have tq1 := Bt3.out.cell 1
    have tq2 := Bt3.out.cell 2
    have tq3 := Bt3.out.cell 3
    simp only [List.getElem?_toArray, List.getElem?_cons_succ, List.getElem?_cons_zero] at tq0 tq1 tq2 tq3
    go_wp2_with fail
    go_ret
    exact ⟨rfl, L3.out⟩
  · have hab2 : decide (b < a) = true := decide_eq_true (by omega)
    subst e1 e2
    unfold Cur.val at *
    go_enter Try.func5, Try.ntmps5
    have B00 := Lib.hid (Blk.new w 27 #[.int .u64 c.next, .int .i64 c.cap, .int .u64 c.got, .int .u64 c.lost])
    have L0 := Lib.hid ((Below.refl w.heap.size w).alloc (Nat.le_refl _) (.cells #[.int .u64 c.next, .int .i64 c.cap, .int .u64 c.got, .int .u64 c.lost] 27))
    go_wp2_with fail
    refine (HA.out _).mono ?_; rintro e wq1 ⟨rfl, hb1⟩
    have Bc1 := Lib.hid (B00.out.bl hb1)
    have L1 := Lib.hid (bl L0.out hb1)
    clear hb1 B00 L0
    have cq0 := Bc1.out.cell 0
    have cq1 := Bc1.out.cell 1
    have cq2 := Bc1.out.cell 2
    have cq3 := Bc1.out.cell 3
    simp only [List.getElem?_toArray, List.getElem?_cons_succ, List.getElem?_cons_zero] at cq0 cq1 cq2 cq3
    have cn1 : ¬ w.heap.size = wq1.heap.size := by have := Bc1.out.lt; omega
    have cn2 : w.heap.size < wq1.heap.size := Bc1.out.lt
    have Ac1 := Lib.hid (Bc1.out.alloc (.cells #[.int .u64 0, .int .i64 0, .int .u64 0, .int .u64 0] 27))
    have Ao1 := Lib.hid (Blk.new wq1 27 #[.int .u64 0, .int .i64 0, .int .u64 0, .int .u64 0])
    have M1 := Lib.hid (L1.out.alloc L1.out.size (.cells #[.int .u64 0, .int .i64 0, .int .u64 0, .int .u64 0] 27))
    clear Bc1 L1
    go_wp2_with fail
    refine (HB.out _).mono ?_; rintro e wq2 ⟨rfl, hb2⟩
    have Bc2 := Lib.hid (Ac1.out.bl hb2)
    have Bo2 := Lib.hid (Ao1.out.bl hb2)
    have L2 := Lib.hid (bl M1.out hb2)
    clear cq0 cq1 cq2 cq3 cn1 cn2
    clear hb2 Ac1 Ao1 M1
    generalize wq1.heap.size = go at *
    have cq0 := Bc2.out.cell 0
    have cq1 := Bc2.out.cell 1
    have cq2 := Bc2.out.cell 2
    have cq3 := Bc2.out.cell 3
    simp only [List.getElem?_toArray, List.getElem?_cons_succ, List.getElem?_cons_zero] at cq0 cq1 cq2 cq3
    have oq0 := Bo2.out.cell 0
    have oq1 := Bo2.out.cell 1
    have oq2 := Bo2.out.cell 2
    have oq3 := Bo2.out.cell 3
    simp only [List.getElem?_toArray, List.getElem?_cons_succ, List.getElem?_cons_zero] at oq0 oq1 oq2 oq3
    have cn1 : ¬ w.heap.size = wq2.heap.size := by have := Bc2.out.lt; omega
    have cn2 : w.heap.size < wq2.heap.size := Bc2.out.lt
    have on1 : ¬ go = wq2.heap.size := by have := Bo2.out.lt; omega
    have on2 : go < wq2.heap.size := Bo2.out.lt
    have Ac2 := Lib.hid (Bc2.out.alloc (.cells #[.int .u64 0, .int .i64 0, .int .u64 0, .int .u64 0] 27))
    have Ao2 := Lib.hid (Bo2.out.alloc (.cells #[.int .u64 0, .int .i64 0, .int .u64 0, .int .u64 0] 27))
    have At2 := Lib.hid (Blk.new wq2 27 #[.int .u64 0, .int .i64 0, .int .u64 0, .int .u64 0])
    have M2 := Lib.hid (L2.out.alloc L2.out.size (.cells #[.int .u64 0, .int .i64 0, .int .u64 0, .int .u64 0] 27))
    clear Bc2 Bo2 L2
    go_wp2_with fail
    refine (awake_any _).mono ?_; rintro e wq3 ⟨rfl, hb3⟩
    have Bc3 := Lib.hid (Ac2.out.bl hb3)
    have Bo3 := Lib.hid (Ao2.out.bl hb3)
    have Bt3 := Lib.hid (At2.out.bl hb3)
    have L3 := Lib.hid (bl M2.out hb3)
    clear cq0 cq1 cq2 cq3 oq0 oq1 oq2 oq3 cn1 cn2 on1 on2
    clear hb3 Ac2 Ao2 At2 M2
    generalize wq2.heap.size = gt at *
    have cq0 := Bc3.out.cell 0
    have cq1 := Bc3.out.cell 1
    have cq2 := Bc3.out.cell 2
    have cq3 := Bc3.out.cell 3
    simp only [List.getElem?_toArray, List.getElem?_cons_succ, List.getElem?_cons_zero] at cq0 cq1 cq2 cq3
    have oq0 := Bo3.out.cell 0
    have oq1 := Bo3.out.cell 1
    have oq2 := Bo3.out.cell 2
    have oq3 := Bo3.out.cell 3
    simp only [List.getElem?_toArray, List.getElem?_cons_succ, List.getElem?_cons_zero] at oq0 oq1 oq2 oq3
    have tq0 := Bt3.out.cell 0
    have tq1 := Bt3.out.cell 1
    have tq2 := Bt3.out.cell 2
    have tq3 := Bt3.out.cell 3
    simp only [List.getElem?_toArray, List.getElem?_cons_succ, List.getElem?_cons_zero] at tq0 tq1 tq2 tq3
    go_wp2_with fail
    go_ret
    exact ⟨rfl, L3.out⟩

set_option maxRecDepth 100000 in
set_option maxHeartbeats 4000000 in
theorem lazy_mid (c : Cur) (a b lo hi : Int) (one two : Cur) (hlh : (¬ a > b ∧ lo = a ∧ hi = b) ∨ (a > b ∧ hi = a ∧ lo = b)) (w : World)
    (HS1 : ∀ w, Calls Try.prog 15 #[c.val, .int .u64 lo] w fun e w' => e = .returned (.tuple #[one.val, .int .i64 0]) ∧ Below w.heap.size w w')
    (HS2 : ∀ w, Calls Try.prog 15 #[c.val, .int .u64 hi] w fun e w' => e = .returned (.tuple #[.agg #[.int .u64 0, .int .i64 0, .int .u64 0, .int .u64 0], .int .i64 10]) ∧ Below w.heap.size w w') :
    Calls Try.prog 5 #[c.val, .int .u64 a, .int .u64 b] w fun e w' => e = .returned (.bool true) ∧ Below w.heap.size w w' := by
  have HA := Lib.hid HS1
  have HB := Lib.hid HS2
  clear HS1 HS2
  rcases hlh with ⟨hab, e1, e2⟩ | ⟨hab, e1, e2⟩
  · have hab2 : decide (b < a) = false := decide_eq_false (by omega)
    subst e1 e2
    unfold Cur.val at *
    go_enter Try.func5, Try.ntmps5
    have B00 := Lib.hid (Blk.new w 27 #[.int .u64 c.next, .int .i64 c.cap, .int .u64 c.got, .int .u64 c.lost])
    have L0 := Lib.hid ((Below.refl w.heap.size w).alloc (Nat.le_refl _) (.cells #[.int .u64 c.next, .int .i64 c.cap, .int .u64 c.got, .int .u64 c.lost] 27))
    go_wp2_with fail
    refine (HA.out _).mono ?_; rintro e wq1 ⟨rfl, hb1⟩
    have Bc1 := Lib.hid (B00.out.bl hb1)
    have L1 := Lib.hid (bl L0.out hb1)
    clear hb1 B00 L0
    have cq0 := Bc1.out.cell 0
    have cq1 := Bc1.out.cell 1
    have cq2 := Bc1.out.cell 2
    have cq3 := Bc1.out.cell 3
    simp only [List.getElem?_toArray, List.getElem?_cons_succ, List.getElem?_cons_zero] at cq0 cq1 cq2 cq3
    have cn1 : ¬ w.heap.size = wq1.heap.size := by have := Bc1.out.lt; omega
    have cn2 : w.heap.size < wq1.heap.size := Bc1.out.lt
    have Ac1 := Lib.hid (Bc1.out.alloc (.cells #[.int .u64 one.next, .int .i64 one.cap, .int .u64 one.got, .int .u64 one.lost] 27))
    have Ao1 := Lib.hid (Blk.new wq1 27 #[.int .u64 one.next, .int .i64 one.cap, .int .u64 one.got, .int .u64 one.lost])
    have M1 := Lib.hid (L1.out.alloc L1.out.size (.cells #[.int .u64 one.next, .int .i64 one.cap, .int .u64 one.got, .int .u64 one.lost] 27))
    clear Bc1 L1
    go_wp2_with fail
    refine (HB.out _).mono ?_; rintro e wq2 ⟨rfl, hb2⟩
    have Bc2 := Lib.hid (Ac1.out.bl hb2)
    have Bo2 := Lib.hid (Ao1.out.bl hb2)
    have L2 := Lib.hid (bl M1.out hb2)
    clear cq0 cq1 cq2 cq3 cn1 cn2
    clear hb2 Ac1 Ao1 M1
    generalize wq1.heap.size = go at *
    have cq0 := Bc2.out.cell 0
    have cq1 := Bc2.out.cell 1
    have cq2 := Bc2.out.cell 2
    have cq3 := Bc2.out.cell 3
    simp only [List.getElem?_toArray, List.getElem?_cons_succ, List.getElem?_cons_zero] at cq0 cq1 cq2 cq3
    have oq0 := Bo2.out.cell 0
    have oq1 := Bo2.out.cell 1
    have oq2 := Bo2.out.cell 2
    have oq3 := Bo2.out.cell 3
    simp only [List.getElem?_toArray, List.getElem?_cons_succ, List.getElem?_cons_zero] at oq0 oq1 oq2 oq3
    have cn1 : ¬ w.heap.size = wq2.heap.size := by have := Bc2.out.lt; omega
    have cn2 : w.heap.size < wq2.heap.size := Bc2.out.lt
    have on1 : ¬ go = wq2.heap.size := by have := Bo2.out.lt; omega
    have on2 : go < wq2.heap.size := Bo2.out.lt
    have Ac2 := Lib.hid (Bc2.out.alloc (.cells #[.int .u64 0, .int .i64 0, .int .u64 0, .int .u64 0] 27))
    have Ao2 := Lib.hid (Bo2.out.alloc (.cells #[.int .u64 0, .int .i64 0, .int .u64 0, .int .u64 0] 27))
    have At2 := Lib.hid (Blk.new wq2 27 #[.int .u64 0, .int .i64 0, .int .u64 0, .int .u64 0])
    have M2 := Lib.hid (L2.out.alloc L2.out.size (.cells #[.int .u64 0, .int .i64 0, .int .u64 0, .int .u64 0] 27))
    clear Bc2 Bo2 L2
    go_wp2_with fail
    refine (awake_any _).mono ?_; rintro e wq3 ⟨rfl, hb3⟩
    have Bc3 := Lib.hid (Ac2.out.bl hb3)
    have Bo3 := Lib.hid (Ao2.out.bl hb3)
    have Bt3 := Lib.hid (At2.out.bl hb3)
    have L3 := Lib.hid (bl M2.out hb3)
    clear cq0 cq1 cq2 cq3 oq0 oq1 oq2 oq3 cn1 cn2 on1 on2
    clear hb3 Ac2 Ao2 At2 M2
    generalize wq2.heap.size = gt at *
    have cq0 := Bc3.out.cell 0
    have cq1 := Bc3.out.cell 1
    have cq2 := Bc3.out.cell 2
    have cq3 := Bc3.out.cell 3
    simp only [List.getElem?_toArray, List.getElem?_cons_succ, List.getElem?_cons_zero] at cq0 cq1 cq2 cq3
    have oq0 := Bo3.out.cell 0
    have oq1 := Bo3.out.cell 1
    have oq2 := Bo3.out.cell 2
    have oq3 := Bo3.out.cell 3
    simp only [List.getElem?_toArray, List.getElem?_cons_succ, List.getElem?_cons_zero] at oq0 oq1 oq2 oq3
    have tq0 := Bt3.out.cell 0
    have tq1 := Bt3.out.cell 1
    have tq2 := Bt3.out.cell 2
    have tq3 := Bt3.out.cell 3
    simp only [List.getElem?_toArray, List.getElem?_cons_succ, List.getElem?_cons_zero] at tq0 tq1 tq2 tq3
    go_wp2_with fail
    go_ret
    exact ⟨rfl, L3.out⟩
  · have hab2 : decide (b < a) = true := decide_eq_true (by omega)
    subst e1 e2
    unfold Cur.val at *
    go_enter Try.func5, Try.ntmps5
    have B00 := Lib.hid (Blk.new w 27 #[.int .u64 c.next, .int .i64 c.cap, .int .u64 c.got, .int .u64 c.lost])
    have L0 := Lib.hid ((Below.refl w.heap.size w).alloc (Nat.le_refl _) (.cells #[.int .u64 c.next, .int .i64 c.cap, .int .u64 c.got, .int .u64 c.lost] 27))
    go_wp2_with fail
    refine (HA.out _).mono ?_; rintro e wq1 ⟨rfl, hb1⟩
    have Bc1 := Lib.hid (B00.out.bl hb1)
    have L1 := Lib.hid (bl L0.out hb1)
    clear hb1 B00 L0
    have cq0 := Bc1.out.cell 0
    have cq1 := Bc1.out.cell 1
    have cq2 := Bc1.out.cell 2
    have cq3 := Bc1.out.cell 3
    simp only [List.getElem?_toArray, List.getElem?_cons_succ, List.getElem?_cons_zero] at cq0 cq1 cq2 cq3
    have cn1 : ¬ w.heap.size = wq1.heap.size := by have := Bc1.out.lt; omega
    have cn2 : w.heap.size < wq1.heap.size := Bc1.out.lt
    have Ac1 := Lib.hid (Bc1.out.alloc (.cells #[.int .u64 one.next, .int .i64 one.cap, .int .u64 one.got, .int .u64 one.lost] 27))
    have Ao1 := Lib.hid (Blk.new wq1 27 #[.int .u64 one.next, .int .i64 one.cap, .int .u64 one.got, .int .u64 one.lost])
    have M1 := Lib.hid (L1.out.alloc L1.out.size (.cells #[.int .u64 one.next, .int .i64 one.cap, .int .u64 one.got, .int .u64 one.lost] 27))
    clear Bc1 L1
    go_wp2_with fail
    refine (HB.out _).mono ?_; rintro e wq2 ⟨rfl, hb2⟩
    have Bc2 := Lib.hid (Ac1.out.bl hb2)
    have Bo2 := Lib.hid (Ao1.out.bl hb2)
    have L2 := Lib.hid (bl M1.out hb2)
    clear cq0 cq1 cq2 cq3 cn1 cn2
    clear hb2 Ac1 Ao1 M1
    generalize wq1.heap.size = go at *
    have cq0 := Bc2.out.cell 0
    have cq1 := Bc2.out.cell 1
    have cq2 := Bc2.out.cell 2
    have cq3 := Bc2.out.cell 3
    simp only [List.getElem?_toArray, List.getElem?_cons_succ, List.getElem?_cons_zero] at cq0 cq1 cq2 cq3
    have oq0 := Bo2.out.cell 0
    have oq1 := Bo2.out.cell 1
    have oq2 := Bo2.out.cell 2
    have oq3 := Bo2.out.cell 3
    simp only [List.getElem?_toArray, List.getElem?_cons_succ, List.getElem?_cons_zero] at oq0 oq1 oq2 oq3
    have cn1 : ¬ w.heap.size = wq2.heap.size := by have := Bc2.out.lt; omega
    have cn2 : w.heap.size < wq2.heap.size := Bc2.out.lt
    have on1 : ¬ go = wq2.heap.size := by have := Bo2.out.lt; omega
    have on2 : go < wq2.heap.size := Bo2.out.lt
    have Ac2 := Lib.hid (Bc2.out.alloc (.cells #[.int .u64 0, .int .i64 0, .int .u64 0, .int .u64 0] 27))
    have Ao2 := Lib.hid (Bo2.out.alloc (.cells #[.int .u64 0, .int .i64 0, .int .u64 0, .int .u64 0] 27))
    have At2 := Lib.hid (Blk.new wq2 27 #[.int .u64 0, .int .i64 0, .int .u64 0, .int .u64 0])
    have M2 := Lib.hid (L2.out.alloc L2.out.size (.cells #[.int .u64 0, .int .i64 0, .int .u64 0, .int .u64 0] 27))
    clear Bc2 Bo2 L2
    go_wp2_with fail
    refine (awake_any _).mono ?_; rintro e wq3 ⟨rfl, hb3⟩
    have Bc3 := Lib.hid (Ac2.out.bl hb3)
    have Bo3 := Lib.hid (Ao2.out.bl hb3)
    have Bt3 := Lib.hid (At2.out.bl hb3)
    have L3 := Lib.hid (bl M2.out hb3)
    clear cq0 cq1 cq2 cq3 oq0 oq1 oq2 oq3 cn1 cn2 on1 on2
    clear hb3 Ac2 Ao2 At2 M2
    generalize wq2.heap.size = gt at *
    have cq0 := Bc3.out.cell 0
    have cq1 := Bc3.out.cell 1
    have cq2 := Bc3.out.cell 2
    have cq3 := Bc3.out.cell 3
    simp only [List.getElem?_toArray, List.getElem?_cons_succ, List.getElem?_cons_zero] at cq0 cq1 cq2 cq3
    have oq0 := Bo3.out.cell 0
    have oq1 := Bo3.out.cell 1
    have oq2 := Bo3.out.cell 2
    have oq3 := Bo3.out.cell 3
    simp only [List.getElem?_toArray, List.getElem?_cons_succ, List.getElem?_cons_zero] at oq0 oq1 oq2 oq3
    have tq0 := Bt3.out.cell 0
    have tq1 := Bt3.out.cell 1
    have tq2 := Bt3.out.cell 2
    have tq3 := Bt3.out.cell 3
    simp only [List.getElem?_toArray, List.getElem?_cons_succ, List.getElem?_cons_zero] at tq0 tq1 tq2 tq3
    go_wp2_with fail
    go_ret
    exact ⟨rfl, L3.out⟩

end Go.Proofs.Ythfkgbgbhjnpdaa.Queue
