/-
  Reg: the walk through the chapter's examples. Condition: the table of ways lies in block 0. By an AI agent.
-/
import Derived.Test.YtjnhmoafljfnkaaDoorRegD
namespace Go.Proofs.YtjnhmoafljfnkaaDoor.Reg
set_option linter.unusedVariables false
set_option linter.unusedSimpArgs false
open Go Go.RowKit Go.Proofs.YtjnhmoafljfnkaaDoor.Base Go.Proofs.YtjnhmoafljfnkaaDoor.Modes Go.Deep

instance (s : St) : Decidable s.Ok := decidable_of_iff ((-9223372036854775808 ≤ s.mode ∧ s.mode ≤ 9223372036854775807) ∧ (-9223372036854775808 ≤ s.source ∧ s.source ≤ 9223372036854775807) ∧ (-9223372036854775808 ≤ s.flags ∧ s.flags ≤ 9223372036854775807) ∧ (0 ≤ s.epoch ∧ s.epoch ≤ 18446744073709551615)) ⟨fun ⟨a, b, c, d⟩ => ⟨a, b, c, d⟩, fun ⟨a, b, c, d⟩ => ⟨a, b, c, d⟩⟩
instance (a : Ask) : Decidable a.Ok := decidable_of_iff ((-9223372036854775808 ≤ a.source ∧ a.source ≤ 9223372036854775807) ∧ (-9223372036854775808 ≤ a.mode ∧ a.mode ≤ 9223372036854775807)) ⟨fun ⟨a, b⟩ => ⟨a, b⟩, fun ⟨a, b⟩ => ⟨a, b⟩⟩
def e1 : St := ⟨1, 2, false, 13, 5⟩
def e2 : St := ⟨7, 3, true, 13, 6⟩
theorem exa (w : World) (ht : Tab w) : Calls Tryd.prog 15 #[.agg #[.int .i64 1, .int .i64 2, .bool false, .int .i64 13, .int .u64 5], .agg #[.int .i64 0, .int .i64 2, .bool false]] w fun e w' => e = .returned (.tuple #[.agg #[.int .i64 0, .int .i64 0, .bool false, .int .i64 0, .int .u64 0], .int .i64 24]) ∧ Below w.heap.size w w' := by
  have h := Decide_any e1 (by decide) ⟨0, 2, false⟩ (by decide) w ht
  have hE : decideE e1 ⟨0, 2, false⟩ = 24 := by decide +kernel
  have hS : decideS e1 ⟨0, 2, false⟩ = St.zero := by unfold decideS; rw [hE]; rw [if_neg (by decide)]
  rw [hE, hS] at h
  exact h
theorem exb (w : World) (ht : Tab w) : Calls Tryd.prog 15 #[.agg #[.int .i64 1, .int .i64 2, .bool false, .int .i64 13, .int .u64 5], .agg #[.int .i64 2, .int .i64 3, .bool false]] w fun e w' => e = .returned (.tuple #[.agg #[.int .i64 0, .int .i64 0, .bool false, .int .i64 0, .int .u64 0], .int .i64 21]) ∧ Below w.heap.size w w' := by
  have h := Decide_any e1 (by decide) ⟨2, 3, false⟩ (by decide) w ht
  have hE : decideE e1 ⟨2, 3, false⟩ = 21 := by decide +kernel
  have hS : decideS e1 ⟨2, 3, false⟩ = St.zero := by unfold decideS; rw [hE]; rw [if_neg (by decide)]
  rw [hE, hS] at h
  exact h
theorem exc (w : World) (ht : Tab w) : Calls Tryd.prog 15 #[.agg #[.int .i64 1, .int .i64 2, .bool false, .int .i64 13, .int .u64 5], .agg #[.int .i64 2, .int .i64 2, .bool false]] w fun e w' => e = .returned (.tuple #[.agg #[.int .i64 2, .int .i64 2, .bool false, .int .i64 13, .int .u64 6], .int .i64 0]) ∧ Below w.heap.size w w' := by
  have h := Decide_any e1 (by decide) ⟨2, 2, false⟩ (by decide) w ht
  have hE : decideE e1 ⟨2, 2, false⟩ = 0 := by decide +kernel
  have hS : decideS e1 ⟨2, 2, false⟩ = ⟨2, 2, false, 13, 6⟩ := by unfold decideS; rw [hE]; rw [if_pos rfl]; simp [nextS, e1]
  rw [hE, hS] at h
  exact h
theorem exd (w : World) (ht : Tab w) : Calls Tryd.prog 15 #[.agg #[.int .i64 1, .int .i64 2, .bool false, .int .i64 13, .int .u64 5], .agg #[.int .i64 3, .int .i64 7, .bool false]] w fun e w' => e = .returned (.tuple #[.agg #[.int .i64 7, .int .i64 3, .bool true, .int .i64 13, .int .u64 6], .int .i64 0]) ∧ Below w.heap.size w w' := by
  have h := Decide_any e1 (by decide) ⟨3, 7, false⟩ (by decide) w ht
  have hE : decideE e1 ⟨3, 7, false⟩ = 0 := by decide +kernel
  have hS : decideS e1 ⟨3, 7, false⟩ = ⟨7, 3, true, 13, 6⟩ := by unfold decideS; rw [hE]; rw [if_pos rfl]; simp [nextS, e1]
  rw [hE, hS] at h
  exact h
theorem exe (w : World) (ht : Tab w) : Calls Tryd.prog 15 #[.agg #[.int .i64 7, .int .i64 3, .bool true, .int .i64 13, .int .u64 6], .agg #[.int .i64 2, .int .i64 6, .bool false]] w fun e w' => e = .returned (.tuple #[.agg #[.int .i64 0, .int .i64 0, .bool false, .int .i64 0, .int .u64 0], .int .i64 23]) ∧ Below w.heap.size w w' := by
  have h := Decide_any e2 (by decide) ⟨2, 6, false⟩ (by decide) w ht
  have hE : decideE e2 ⟨2, 6, false⟩ = 23 := by decide +kernel
  have hS : decideS e2 ⟨2, 6, false⟩ = St.zero := by unfold decideS; rw [hE]; rw [if_neg (by decide)]
  rw [hE, hS] at h
  exact h
theorem exf (w : World) (ht : Tab w) : Calls Tryd.prog 15 #[.agg #[.int .i64 7, .int .i64 3, .bool true, .int .i64 13, .int .u64 6], .agg #[.int .i64 3, .int .i64 6, .bool true]] w fun e w' => e = .returned (.tuple #[.agg #[.int .i64 6, .int .i64 0, .bool false, .int .i64 13, .int .u64 7], .int .i64 0]) ∧ Below w.heap.size w w' := by
  have h := Decide_any e2 (by decide) ⟨3, 6, true⟩ (by decide) w ht
  have hE : decideE e2 ⟨3, 6, true⟩ = 0 := by decide +kernel
  have hS : decideS e2 ⟨3, 6, true⟩ = ⟨6, 0, false, 13, 7⟩ := by unfold decideS; rw [hE]; rw [if_pos rfl]; simp [nextS, e2]
  rw [hE, hS] at h
  exact h
theorem exp (w : World) : Calls Tryd.prog 9 #[.agg #[.int .i64 1, .int .i64 2, .bool false, .int .i64 13, .int .u64 5]] w fun e w' => e = .returned (.tuple #[.int .u64 21329, .int .i64 0]) ∧ Below w.heap.size w w' := by
  have h := Pack_ok e1 (by decide) (by decide) w
  rwa [show wordI e1 = 21329 by decide] at h
set_option maxRecDepth 100000 in
set_option maxHeartbeats 8000000 in
theorem awake_any (w : World) (ht : Tab w) : Calls Tryd.prog 14 #[] w fun e w' => e = .returned (.bool true) ∧ Below w.heap.size w w' := by
  have HT := Lib.hid ht
  clear ht
  go_enter Tryd.func14, Tryd.ntmps14
  have Bs0 := Lib.hid (blk_new' w (g := w.heap.size) (by simp) 24 #[.int .i64 1, .int .i64 2, .bool false, .int .i64 13, .int .u64 5])
  have L0 := Lib.hid ((Below.refl w.heap.size w).alloc (by first | exact Nat.le_refl _ | (simp; done) | (simp; omega)) (.cells #[.int .i64 1, .int .i64 2, .bool false, .int .i64 13, .int .u64 5] 24))
  have T0 := Lib.hid (HT.out.below L0.out)
  go_wp2_with fail
  refine (exp _).mono ?_; rintro e wq1 ⟨rfl, hb1⟩
  have Bs1 := Lib.hid (Bs0.out.bl hb1)
  have L1 := Lib.hid (bl L0.out hb1)
  have T1 := Lib.hid (T0.out.below hb1)
  clear hb1 Bs0 L0 T0
  have sq0 := Bs1.out.cell 0
  have sq1 := Bs1.out.cell 1
  have sq2 := Bs1.out.cell 2
  have sq3 := Bs1.out.cell 3
  have sq4 := Bs1.out.cell 4
  simp only [List.getElem?_toArray, List.getElem?_cons_succ, List.getElem?_cons_zero] at sq0 sq1 sq2 sq3 sq4
  go_wp2_with fail
  refine (exa _ T1.out).mono ?_; rintro e wq2 ⟨rfl, hb2⟩
  have Bs2 := Lib.hid (Bs1.out.bl hb2)
  have L2 := Lib.hid (bl L1.out hb2)
  have T2 := Lib.hid (T1.out.below hb2)
  clear sq0 sq1 sq2 sq3 sq4
  clear hb2 Bs1 L1 T1
  have sq0 := Bs2.out.cell 0
  have sq1 := Bs2.out.cell 1
  have sq2 := Bs2.out.cell 2
  have sq3 := Bs2.out.cell 3
  have sq4 := Bs2.out.cell 4
  simp only [List.getElem?_toArray, List.getElem?_cons_succ, List.getElem?_cons_zero] at sq0 sq1 sq2 sq3 sq4
  have uge := Lib.hid (show w.heap.size ≤ wq2.heap.size from L2.out.size)
  have sn1 : ¬ w.heap.size = wq2.heap.size := by have := Bs2.out.lt; omega
  have sune := Lib.hid sn1
  have sn2 : w.heap.size < wq2.heap.size := Bs2.out.lt
  have As2 := Lib.hid (Bs2.out.alloc (.cells #[.int .i64 0, .int .i64 0, .bool false, .int .i64 0, .int .u64 0] 24))
  have Ta2 := Lib.hid (T2.out.below ((Below.refl _ _).alloc (Nat.le_refl _) (.cells #[.int .i64 0, .int .i64 0, .bool false, .int .i64 0, .int .u64 0] 24)))
  have Au2 := Lib.hid (Blk.new wq2 24 #[.int .i64 0, .int .i64 0, .bool false, .int .i64 0, .int .u64 0])
  have M2 := Lib.hid (L2.out.alloc L2.out.size (.cells #[.int .i64 0, .int .i64 0, .bool false, .int .i64 0, .int .u64 0] 24))
  clear Bs2 L2 T2
  go_wp2_with fail
  refine (exb _ Ta2.out).mono ?_; rintro e wq3 ⟨rfl, hb3⟩
  have Bs3 := Lib.hid (As2.out.bl hb3)
  have Bu3 := Lib.hid (Au2.out.bl hb3)
  have L3 := Lib.hid (bl M2.out hb3)
  have T3 := Lib.hid (Ta2.out.below hb3)
  clear sq0 sq1 sq2 sq3 sq4 sn1 sn2
  clear hb3 As2 Au2 M2 Ta2
  generalize wq2.heap.size = gu at uge sune Bu3 ⊢
  have sq0 := Bs3.out.cell 0
  have sq1 := Bs3.out.cell 1
  have sq2 := Bs3.out.cell 2
  have sq3 := Bs3.out.cell 3
  have sq4 := Bs3.out.cell 4
  simp only [List.getElem?_toArray, List.getElem?_cons_succ, List.getElem?_cons_zero] at sq0 sq1 sq2 sq3 sq4
  have uq0 := Bu3.out.cell 0
  have uq1 := Bu3.out.cell 1
  have uq2 := Bu3.out.cell 2
  have uq3 := Bu3.out.cell 3
  have uq4 := Bu3.out.cell 4
  simp only [List.getElem?_toArray, List.getElem?_cons_succ, List.getElem?_cons_zero] at uq0 uq1 uq2 uq3 uq4
  have vge := Lib.hid (show w.heap.size ≤ wq3.heap.size from L3.out.size)
  have sn1 : ¬ w.heap.size = wq3.heap.size := by have := Bs3.out.lt; omega
  have svne := Lib.hid sn1
  have sn2 : w.heap.size < wq3.heap.size := Bs3.out.lt
  have un1 : ¬ gu = wq3.heap.size := by have := Bu3.out.lt; omega
  have uvne := Lib.hid un1
  have un2 : gu < wq3.heap.size := Bu3.out.lt
  have As3 := Lib.hid (Bs3.out.alloc (.cells #[.int .i64 0, .int .i64 0, .bool false, .int .i64 0, .int .u64 0] 24))
  have Au3 := Lib.hid (Bu3.out.alloc (.cells #[.int .i64 0, .int .i64 0, .bool false, .int .i64 0, .int .u64 0] 24))
  have Ta3 := Lib.hid (T3.out.below ((Below.refl _ _).alloc (Nat.le_refl _) (.cells #[.int .i64 0, .int .i64 0, .bool false, .int .i64 0, .int .u64 0] 24)))
  have Av3 := Lib.hid (Blk.new wq3 24 #[.int .i64 0, .int .i64 0, .bool false, .int .i64 0, .int .u64 0])
  have M3 := Lib.hid (L3.out.alloc L3.out.size (.cells #[.int .i64 0, .int .i64 0, .bool false, .int .i64 0, .int .u64 0] 24))
  clear Bs3 Bu3 L3 T3
  go_wp2_with fail
  refine (exc _ Ta3.out).mono ?_; rintro e wq4 ⟨rfl, hb4⟩
  have Bs4 := Lib.hid (As3.out.bl hb4)
  have Bu4 := Lib.hid (Au3.out.bl hb4)
  have Bv4 := Lib.hid (Av3.out.bl hb4)
  have L4 := Lib.hid (bl M3.out hb4)
  have T4 := Lib.hid (Ta3.out.below hb4)
  clear sq0 sq1 sq2 sq3 sq4 uq0 uq1 uq2 uq3 uq4 sn1 sn2 un1 un2
  clear hb4 As3 Au3 Av3 M3 Ta3
  generalize wq3.heap.size = gv at vge svne uvne Bv4 ⊢
  have sq0 := Bs4.out.cell 0
  have sq1 := Bs4.out.cell 1
  have sq2 := Bs4.out.cell 2
  have sq3 := Bs4.out.cell 3
  have sq4 := Bs4.out.cell 4
  simp only [List.getElem?_toArray, List.getElem?_cons_succ, List.getElem?_cons_zero] at sq0 sq1 sq2 sq3 sq4
  have uq0 := Bu4.out.cell 0
  have uq1 := Bu4.out.cell 1
  have uq2 := Bu4.out.cell 2
  have uq3 := Bu4.out.cell 3
  have uq4 := Bu4.out.cell 4
  simp only [List.getElem?_toArray, List.getElem?_cons_succ, List.getElem?_cons_zero] at uq0 uq1 uq2 uq3 uq4
  have vq0 := Bv4.out.cell 0
  have vq1 := Bv4.out.cell 1
  have vq2 := Bv4.out.cell 2
  have vq3 := Bv4.out.cell 3
  have vq4 := Bv4.out.cell 4
  simp only [List.getElem?_toArray, List.getElem?_cons_succ, List.getElem?_cons_zero] at vq0 vq1 vq2 vq3 vq4
  have tge := Lib.hid (show w.heap.size ≤ wq4.heap.size from L4.out.size)
  have sn1 : ¬ w.heap.size = wq4.heap.size := by have := Bs4.out.lt; omega
  have stne := Lib.hid sn1
  have sn2 : w.heap.size < wq4.heap.size := Bs4.out.lt
  have un1 : ¬ gu = wq4.heap.size := by have := Bu4.out.lt; omega
  have utne := Lib.hid un1
  have un2 : gu < wq4.heap.size := Bu4.out.lt
  have vn1 : ¬ gv = wq4.heap.size := by have := Bv4.out.lt; omega
  have vtne := Lib.hid vn1
  have vn2 : gv < wq4.heap.size := Bv4.out.lt
  have As4 := Lib.hid (Bs4.out.alloc (.cells #[.int .i64 2, .int .i64 2, .bool false, .int .i64 13, .int .u64 6] 24))
  have Au4 := Lib.hid (Bu4.out.alloc (.cells #[.int .i64 2, .int .i64 2, .bool false, .int .i64 13, .int .u64 6] 24))
  have Av4 := Lib.hid (Bv4.out.alloc (.cells #[.int .i64 2, .int .i64 2, .bool false, .int .i64 13, .int .u64 6] 24))
  have Ta4 := Lib.hid (T4.out.below ((Below.refl _ _).alloc (Nat.le_refl _) (.cells #[.int .i64 2, .int .i64 2, .bool false, .int .i64 13, .int .u64 6] 24)))
  have At4 := Lib.hid (Blk.new wq4 24 #[.int .i64 2, .int .i64 2, .bool false, .int .i64 13, .int .u64 6])
  have M4 := Lib.hid (L4.out.alloc L4.out.size (.cells #[.int .i64 2, .int .i64 2, .bool false, .int .i64 13, .int .u64 6] 24))
  clear Bs4 Bu4 Bv4 L4 T4
  go_wp2_with fail
  refine (exd _ Ta4.out).mono ?_; rintro e wq5 ⟨rfl, hb5⟩
  have Bs5 := Lib.hid (As4.out.bl hb5)
  have Bu5 := Lib.hid (Au4.out.bl hb5)
  have Bv5 := Lib.hid (Av4.out.bl hb5)
  have Bt5 := Lib.hid (At4.out.bl hb5)
  have L5 := Lib.hid (bl M4.out hb5)
  have T5 := Lib.hid (Ta4.out.below hb5)
  clear sq0 sq1 sq2 sq3 sq4 uq0 uq1 uq2 uq3 uq4 vq0 vq1 vq2 vq3 vq4 sn1 sn2 un1 un2 vn1 vn2
  clear hb5 As4 Au4 Av4 At4 M4 Ta4
  generalize wq4.heap.size = gt at tge stne utne vtne Bt5 ⊢
  have sq0 := Bs5.out.cell 0
  have sq1 := Bs5.out.cell 1
  have sq2 := Bs5.out.cell 2
  have sq3 := Bs5.out.cell 3
  have sq4 := Bs5.out.cell 4
  simp only [List.getElem?_toArray, List.getElem?_cons_succ, List.getElem?_cons_zero] at sq0 sq1 sq2 sq3 sq4
  have uq0 := Bu5.out.cell 0
  have uq1 := Bu5.out.cell 1
  have uq2 := Bu5.out.cell 2
  have uq3 := Bu5.out.cell 3
  have uq4 := Bu5.out.cell 4
  simp only [List.getElem?_toArray, List.getElem?_cons_succ, List.getElem?_cons_zero] at uq0 uq1 uq2 uq3 uq4
  have vq0 := Bv5.out.cell 0
  have vq1 := Bv5.out.cell 1
  have vq2 := Bv5.out.cell 2
  have vq3 := Bv5.out.cell 3
  have vq4 := Bv5.out.cell 4
  simp only [List.getElem?_toArray, List.getElem?_cons_succ, List.getElem?_cons_zero] at vq0 vq1 vq2 vq3 vq4
  have tq0 := Bt5.out.cell 0
  have tq1 := Bt5.out.cell 1
  have tq2 := Bt5.out.cell 2
  have tq3 := Bt5.out.cell 3
  have tq4 := Bt5.out.cell 4
  simp only [List.getElem?_toArray, List.getElem?_cons_succ, List.getElem?_cons_zero] at tq0 tq1 tq2 tq3 tq4
  have xge := Lib.hid (show w.heap.size ≤ wq5.heap.size from L5.out.size)
  have sn1 : ¬ w.heap.size = wq5.heap.size := by have := Bs5.out.lt; omega
  have sxne := Lib.hid sn1
  have sn2 : w.heap.size < wq5.heap.size := Bs5.out.lt
  have un1 : ¬ gu = wq5.heap.size := by have := Bu5.out.lt; omega
  have uxne := Lib.hid un1
  have un2 : gu < wq5.heap.size := Bu5.out.lt
  have vn1 : ¬ gv = wq5.heap.size := by have := Bv5.out.lt; omega
  have vxne := Lib.hid vn1
  have vn2 : gv < wq5.heap.size := Bv5.out.lt
  have tn1 : ¬ gt = wq5.heap.size := by have := Bt5.out.lt; omega
  have txne := Lib.hid tn1
  have tn2 : gt < wq5.heap.size := Bt5.out.lt
  have As5 := Lib.hid (Bs5.out.alloc (.cells #[.int .i64 7, .int .i64 3, .bool true, .int .i64 13, .int .u64 6] 24))
  have Au5 := Lib.hid (Bu5.out.alloc (.cells #[.int .i64 7, .int .i64 3, .bool true, .int .i64 13, .int .u64 6] 24))
  have Av5 := Lib.hid (Bv5.out.alloc (.cells #[.int .i64 7, .int .i64 3, .bool true, .int .i64 13, .int .u64 6] 24))
  have At5 := Lib.hid (Bt5.out.alloc (.cells #[.int .i64 7, .int .i64 3, .bool true, .int .i64 13, .int .u64 6] 24))
  have Ta5 := Lib.hid (T5.out.below ((Below.refl _ _).alloc (Nat.le_refl _) (.cells #[.int .i64 7, .int .i64 3, .bool true, .int .i64 13, .int .u64 6] 24)))
  have Ax5 := Lib.hid (Blk.new wq5 24 #[.int .i64 7, .int .i64 3, .bool true, .int .i64 13, .int .u64 6])
  have M5 := Lib.hid (L5.out.alloc L5.out.size (.cells #[.int .i64 7, .int .i64 3, .bool true, .int .i64 13, .int .u64 6] 24))
  clear Bs5 Bu5 Bv5 Bt5 L5 T5
  go_wp2_with fail
  refine (exe _ Ta5.out).mono ?_; rintro e wq6 ⟨rfl, hb6⟩
  have Bs6 := Lib.hid (As5.out.bl hb6)
  have Bu6 := Lib.hid (Au5.out.bl hb6)
  have Bv6 := Lib.hid (Av5.out.bl hb6)
  have Bt6 := Lib.hid (At5.out.bl hb6)
  have Bx6 := Lib.hid (Ax5.out.bl hb6)
  have L6 := Lib.hid (bl M5.out hb6)
  have T6 := Lib.hid (Ta5.out.below hb6)
  clear sq0 sq1 sq2 sq3 sq4 uq0 uq1 uq2 uq3 uq4 vq0 vq1 vq2 vq3 vq4 tq0 tq1 tq2 tq3 tq4 sn1 sn2 un1 un2 vn1 vn2 tn1 tn2
  clear hb6 As5 Au5 Av5 At5 Ax5 M5 Ta5
  generalize wq5.heap.size = gx at xge sxne uxne vxne txne Bx6 ⊢
  have sq0 := Bs6.out.cell 0
  have sq1 := Bs6.out.cell 1
  have sq2 := Bs6.out.cell 2
  have sq3 := Bs6.out.cell 3
  have sq4 := Bs6.out.cell 4
  simp only [List.getElem?_toArray, List.getElem?_cons_succ, List.getElem?_cons_zero] at sq0 sq1 sq2 sq3 sq4
  have uq0 := Bu6.out.cell 0
  have uq1 := Bu6.out.cell 1
  have uq2 := Bu6.out.cell 2
  have uq3 := Bu6.out.cell 3
  have uq4 := Bu6.out.cell 4
  simp only [List.getElem?_toArray, List.getElem?_cons_succ, List.getElem?_cons_zero] at uq0 uq1 uq2 uq3 uq4
  have vq0 := Bv6.out.cell 0
  have vq1 := Bv6.out.cell 1
  have vq2 := Bv6.out.cell 2
  have vq3 := Bv6.out.cell 3
  have vq4 := Bv6.out.cell 4
  simp only [List.getElem?_toArray, List.getElem?_cons_succ, List.getElem?_cons_zero] at vq0 vq1 vq2 vq3 vq4
  have tq0 := Bt6.out.cell 0
  have tq1 := Bt6.out.cell 1
  have tq2 := Bt6.out.cell 2
  have tq3 := Bt6.out.cell 3
  have tq4 := Bt6.out.cell 4
  simp only [List.getElem?_toArray, List.getElem?_cons_succ, List.getElem?_cons_zero] at tq0 tq1 tq2 tq3 tq4
  have xq0 := Bx6.out.cell 0
  have xq1 := Bx6.out.cell 1
  have xq2 := Bx6.out.cell 2
  have xq3 := Bx6.out.cell 3
  have xq4 := Bx6.out.cell 4
  simp only [List.getElem?_toArray, List.getElem?_cons_succ, List.getElem?_cons_zero] at xq0 xq1 xq2 xq3 xq4
  go_wp2_with fail
  refine (exf _ T6.out).mono ?_; rintro e wq7 ⟨rfl, hb7⟩
  have Bs7 := Lib.hid (Bs6.out.bl hb7)
  have Bu7 := Lib.hid (Bu6.out.bl hb7)
  have Bv7 := Lib.hid (Bv6.out.bl hb7)
  have Bt7 := Lib.hid (Bt6.out.bl hb7)
  have Bx7 := Lib.hid (Bx6.out.bl hb7)
  have L7 := Lib.hid (bl L6.out hb7)
  have T7 := Lib.hid (T6.out.below hb7)
  clear sq0 sq1 sq2 sq3 sq4 uq0 uq1 uq2 uq3 uq4 vq0 vq1 vq2 vq3 vq4 tq0 tq1 tq2 tq3 tq4 xq0 xq1 xq2 xq3 xq4
  clear hb7 Bs6 Bu6 Bv6 Bt6 Bx6 L6 T6
  have sq0 := Bs7.out.cell 0
  have sq1 := Bs7.out.cell 1
  have sq2 := Bs7.out.cell 2
  have sq3 := Bs7.out.cell 3
  have sq4 := Bs7.out.cell 4
  simp only [List.getElem?_toArray, List.getElem?_cons_succ, List.getElem?_cons_zero] at sq0 sq1 sq2 sq3 sq4
  have uq0 := Bu7.out.cell 0
  have uq1 := Bu7.out.cell 1
  have uq2 := Bu7.out.cell 2
  have uq3 := Bu7.out.cell 3
  have uq4 := Bu7.out.cell 4
  simp only [List.getElem?_toArray, List.getElem?_cons_succ, List.getElem?_cons_zero] at uq0 uq1 uq2 uq3 uq4
  have vq0 := Bv7.out.cell 0
  have vq1 := Bv7.out.cell 1
  have vq2 := Bv7.out.cell 2
  have vq3 := Bv7.out.cell 3
  have vq4 := Bv7.out.cell 4
  simp only [List.getElem?_toArray, List.getElem?_cons_succ, List.getElem?_cons_zero] at vq0 vq1 vq2 vq3 vq4
  have tq0 := Bt7.out.cell 0
  have tq1 := Bt7.out.cell 1
  have tq2 := Bt7.out.cell 2
  have tq3 := Bt7.out.cell 3
  have tq4 := Bt7.out.cell 4
  simp only [List.getElem?_toArray, List.getElem?_cons_succ, List.getElem?_cons_zero] at tq0 tq1 tq2 tq3 tq4
  have xq0 := Bx7.out.cell 0
  have xq1 := Bx7.out.cell 1
  have xq2 := Bx7.out.cell 2
  have xq3 := Bx7.out.cell 3
  have xq4 := Bx7.out.cell 4
  simp only [List.getElem?_toArray, List.getElem?_cons_succ, List.getElem?_cons_zero] at xq0 xq1 xq2 xq3 xq4
  have yge := Lib.hid (show w.heap.size ≤ wq7.heap.size from L7.out.size)
  have sn1 : ¬ w.heap.size = wq7.heap.size := by have := Bs7.out.lt; omega
  have syne := Lib.hid sn1
  have sn2 : w.heap.size < wq7.heap.size := Bs7.out.lt
  have un1 : ¬ gu = wq7.heap.size := by have := Bu7.out.lt; omega
  have uyne := Lib.hid un1
  have un2 : gu < wq7.heap.size := Bu7.out.lt
  have vn1 : ¬ gv = wq7.heap.size := by have := Bv7.out.lt; omega
  have vyne := Lib.hid vn1
  have vn2 : gv < wq7.heap.size := Bv7.out.lt
  have tn1 : ¬ gt = wq7.heap.size := by have := Bt7.out.lt; omega
  have tyne := Lib.hid tn1
  have tn2 : gt < wq7.heap.size := Bt7.out.lt
  have xn1 : ¬ gx = wq7.heap.size := by have := Bx7.out.lt; omega
  have xyne := Lib.hid xn1
  have xn2 : gx < wq7.heap.size := Bx7.out.lt
  have As7 := Lib.hid (Bs7.out.alloc (.cells #[.int .i64 6, .int .i64 0, .bool false, .int .i64 13, .int .u64 7] 24))
  have Au7 := Lib.hid (Bu7.out.alloc (.cells #[.int .i64 6, .int .i64 0, .bool false, .int .i64 13, .int .u64 7] 24))
  have Av7 := Lib.hid (Bv7.out.alloc (.cells #[.int .i64 6, .int .i64 0, .bool false, .int .i64 13, .int .u64 7] 24))
  have At7 := Lib.hid (Bt7.out.alloc (.cells #[.int .i64 6, .int .i64 0, .bool false, .int .i64 13, .int .u64 7] 24))
  have Ax7 := Lib.hid (Bx7.out.alloc (.cells #[.int .i64 6, .int .i64 0, .bool false, .int .i64 13, .int .u64 7] 24))
  have Ta7 := Lib.hid (T7.out.below ((Below.refl _ _).alloc (Nat.le_refl _) (.cells #[.int .i64 6, .int .i64 0, .bool false, .int .i64 13, .int .u64 7] 24)))
  have Ay7 := Lib.hid (Blk.new wq7 24 #[.int .i64 6, .int .i64 0, .bool false, .int .i64 13, .int .u64 7])
  have M7 := Lib.hid (L7.out.alloc L7.out.size (.cells #[.int .i64 6, .int .i64 0, .bool false, .int .i64 13, .int .u64 7] 24))
  clear Bs7 Bu7 Bv7 Bt7 Bx7 L7 T7
  go_wp2_with fail
  go_ret
  exact ⟨rfl, M7.out⟩
end Go.Proofs.YtjnhmoafljfnkaaDoor.Reg
