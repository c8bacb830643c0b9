/-
  QueueCursors: the walk where nothing is queued. Conditions stand at each. By an AI agent.
-/
import Derived.Test.YthfkgbgbhjnpdaaRefQ
namespace Go.Proofs.Ythfkgbgbhjnpdaa.Queue
set_option linter.unusedVariables false
set_option linter.unusedSimpArgs false
open Go Go.RowKit Go.Proofs.Ythfkgbgbhjnpdaa.Base

set_option maxRecDepth 100000 in
set_option maxHeartbeats 4000000 in
theorem curs_A2_n0 (c : Cur) (g room : Int) (sc : Cur) (me n : Int) (w : World) (hg0 : 0 ≤ g) (hg1 : g ≤ 18446744073709551615)
    (hgi : g < 9223372036854775808)
    (hr1 : decide (room < 1) = true)
    (HN : ∀ w, Calls Try.prog 11 #[.int .u64 g, .int .i64 room] w fun e w' => e = .returned (.tuple #[.agg #[.int .u64 0, .int .i64 0, .int .u64 0, .int .u64 0], .int .i64 10]) ∧ Below w.heap.size w w')
    (HI : ∀ w, Calls Try.prog 17 #[.int .u64 g] w fun e w' => e = .returned (.bool true) ∧ Below w.heap.size w w')
    (HS : ∀ w, Calls Try.prog 15 #[c.val, .int .u64 g] w fun e w' => e = .returned (.tuple #[.agg #[.int .u64 sc.next, .int .i64 sc.cap, .int .u64 sc.got, .int .u64 sc.lost], .int .i64 0]) ∧ Below w.heap.size w w')
    (HT : ∀ w, Calls Try.prog 13 #[c.val, .int .u64 g] w fun e w' => e = .returned (.tuple #[.int .u64 0, .agg #[.int .u64 0, .int .i64 0, .int .u64 0, .int .u64 0], .int .i64 14]) ∧ Below w.heap.size w w')
    (HM : ∀ w, Calls Try.prog 18 #[c.val, .int .u64 g] w fun e w' => e = .returned (.int .i64 0) ∧ Below w.heap.size w w')
    (HK : ∀ w, Calls Try.prog 16 #[c.val, .int .u64 g] w fun e w' => e = .returned (.int .i64 0) ∧ Below w.heap.size w w')
    (HRS : ∀ w, Calls Try.prog 19 #[c.val, .int .u64 g] w fun e w' => e = .returned (.agg #[.int .u64 sc.next, .int .i64 sc.cap, .int .u64 sc.got, .int .u64 sc.lost]) ∧ Below w.heap.size w w')
    (HW : ∀ w, Calls Try.prog 20 #[.agg #[.int .u64 sc.next, .int .i64 sc.cap, .int .u64 sc.got, .int .u64 sc.lost], .int .u64 g] w fun e w' => e = .returned (.int .u64 0) ∧ Below w.heap.size w w')
    (HSM : ∀ w, Calls Try.prog 21 #[.agg #[.int .u64 sc.next, .int .i64 sc.cap, .int .u64 sc.got, .int .u64 sc.lost], .agg #[.int .u64 sc.next, .int .i64 sc.cap, .int .u64 sc.got, .int .u64 sc.lost]] w fun e w' => e = .returned (.bool true) ∧ Below w.heap.size w w') :
    Calls Try.prog 6 #[c.val, .int .u64 g, .int .i64 room] w fun e w' => e = .returned (.bool true) ∧ Below w.heap.size w w' := by
  have JN := Lib.hid HN
  have JI := Lib.hid HI
  have JS := Lib.hid HS
  have JT := Lib.hid HT
  have JM := Lib.hid HM
  have JK := Lib.hid HK
  have JRS := Lib.hid HRS
  have JW := Lib.hid HW
  have JSM := Lib.hid HSM
  clear HN HI HS HT HM HK HRS HW HSM
  unfold Cur.val at *
  go_enter Try.func6, Try.ntmps6
  have B00 := Lib.hid ((Blk.new w 27 #[.int .u64 c.next, .int .i64 c.cap, .int .u64 c.got, .int .u64 c.lost]).alloc (.cells #[.int .u64 c.next, .int .i64 c.cap, .int .u64 c.got, .int .u64 c.lost] 46))
  have R00 := Lib.hid (show Blk ((w.alloc (.cells #[.int .u64 c.next, .int .i64 c.cap, .int .u64 c.got, .int .u64 c.lost] 27)).alloc (.cells #[.int .u64 c.next, .int .i64 c.cap, .int .u64 c.got, .int .u64 c.lost] 46)) (w.heap.size + 1) 46 #[.int .u64 c.next, .int .i64 c.cap, .int .u64 c.got, .int .u64 c.lost] by have := Blk.new (w.alloc (.cells #[.int .u64 c.next, .int .i64 c.cap, .int .u64 c.got, .int .u64 c.lost] 27)) 46 #[.int .u64 c.next, .int .i64 c.cap, .int .u64 c.got, .int .u64 c.lost]; rwa [World.size_alloc] at this)
  have L0 := Lib.hid (((Below.refl w.heap.size w).alloc (Nat.le_refl _) (.cells #[.int .u64 c.next, .int .i64 c.cap, .int .u64 c.got, .int .u64 c.lost] 27)).alloc (by simp) (.cells #[.int .u64 c.next, .int .i64 c.cap, .int .u64 c.got, .int .u64 c.lost] 46))
  go_wp2_with fail
  refine (JN.out _).mono ?_; rintro e wq1 ⟨rfl, hb1⟩
  have Bc1 := Lib.hid (B00.out.bl hb1)
  have Br1 := Lib.hid (R00.out.bl hb1)
  have L1 := Lib.hid (bl L0.out hb1)
  clear hb1 B00 R00 L0
  have cq0 := Bc1.out.cell 0
  have cq1 := Bc1.out.cell 1
  have cq2 := Bc1.out.cell 2
  have cq3 := Bc1.out.cell 3
  simp only [List.getElem?_toArray, List.getElem?_cons_succ, List.getElem?_cons_zero] at cq0 cq1 cq2 cq3
  have rq0 := Br1.out.cell 0
  have rq1 := Br1.out.cell 1
  have rq2 := Br1.out.cell 2
  have rq3 := Br1.out.cell 3
  simp only [List.getElem?_toArray, List.getElem?_cons_succ, List.getElem?_cons_zero] at rq0 rq1 rq2 rq3
  have fge := Lib.hid (show w.heap.size ≤ wq1.heap.size from L1.out.size)
  have cn1 : ¬ w.heap.size = wq1.heap.size := by have := Bc1.out.lt; omega
  have cfne := Lib.hid cn1
  have cn2 : w.heap.size < wq1.heap.size := Bc1.out.lt
  have rn1 : ¬ (w.heap.size + 1) = wq1.heap.size := by have := Br1.out.lt; omega
  have rfne := Lib.hid rn1
  have rn2 : (w.heap.size + 1) < wq1.heap.size := Br1.out.lt
  have Ac1 := Lib.hid (Bc1.out.alloc (.cells #[.int .u64 0, .int .i64 0, .int .u64 0, .int .u64 0] 27))
  have Ar1 := Lib.hid (Br1.out.alloc (.cells #[.int .u64 0, .int .i64 0, .int .u64 0, .int .u64 0] 27))
  have Af1 := Lib.hid (Blk.new wq1 27 #[.int .u64 0, .int .i64 0, .int .u64 0, .int .u64 0])
  have M1 := Lib.hid (L1.out.alloc L1.out.size (.cells #[.int .u64 0, .int .i64 0, .int .u64 0, .int .u64 0] 27))
  clear Bc1 Br1 L1
  go_wp2_with fail
  refine (JI.out _).mono ?_; rintro e wq2 ⟨rfl, hb2⟩
  have Bc2 := Lib.hid (Ac1.out.bl hb2)
  have Br2 := Lib.hid (Ar1.out.bl hb2)
  have Bf2 := Lib.hid (Af1.out.bl hb2)
  have L2 := Lib.hid (bl M1.out hb2)
  clear cq0 cq1 cq2 cq3 rq0 rq1 rq2 rq3 cn1 cn2 rn1 rn2
  clear hb2 Ac1 Ar1 Af1 M1
  generalize wq1.heap.size = gf at *
  have cq0 := Bc2.out.cell 0
  have cq1 := Bc2.out.cell 1
  have cq2 := Bc2.out.cell 2
  have cq3 := Bc2.out.cell 3
  simp only [List.getElem?_toArray, List.getElem?_cons_succ, List.getElem?_cons_zero] at cq0 cq1 cq2 cq3
  have rq0 := Br2.out.cell 0
  have rq1 := Br2.out.cell 1
  have rq2 := Br2.out.cell 2
  have rq3 := Br2.out.cell 3
  simp only [List.getElem?_toArray, List.getElem?_cons_succ, List.getElem?_cons_zero] at rq0 rq1 rq2 rq3
  have fq0 := Bf2.out.cell 0
  have fq1 := Bf2.out.cell 1
  have fq2 := Bf2.out.cell 2
  have fq3 := Bf2.out.cell 3
  simp only [List.getElem?_toArray, List.getElem?_cons_succ, List.getElem?_cons_zero] at fq0 fq1 fq2 fq3
  go_wp2_with fail
  refine (JS.out _).mono ?_; rintro e wq3 ⟨rfl, hb3⟩
  have Bc3 := Lib.hid (Bc2.out.bl hb3)
  have Br3 := Lib.hid (Br2.out.bl hb3)
  have Bf3 := Lib.hid (Bf2.out.bl hb3)
  have L3 := Lib.hid (bl L2.out hb3)
  clear cq0 cq1 cq2 cq3 rq0 rq1 rq2 rq3 fq0 fq1 fq2 fq3
  clear hb3 Bc2 Br2 Bf2 L2
  have cq0 := Bc3.out.cell 0
  have cq1 := Bc3.out.cell 1
  have cq2 := Bc3.out.cell 2
  have cq3 := Bc3.out.cell 3
  simp only [List.getElem?_toArray, List.getElem?_cons_succ, List.getElem?_cons_zero] at cq0 cq1 cq2 cq3
  have rq0 := Br3.out.cell 0
  have rq1 := Br3.out.cell 1
  have rq2 := Br3.out.cell 2
  have rq3 := Br3.out.cell 3
  simp only [List.getElem?_toArray, List.getElem?_cons_succ, List.getElem?_cons_zero] at rq0 rq1 rq2 rq3
  have fq0 := Bf3.out.cell 0
  have fq1 := Bf3.out.cell 1
  have fq2 := Bf3.out.cell 2
  have fq3 := Bf3.out.cell 3
  simp only [List.getElem?_toArray, List.getElem?_cons_succ, List.getElem?_cons_zero] at fq0 fq1 fq2 fq3
  have dge := Lib.hid (show w.heap.size ≤ wq3.heap.size from L3.out.size)
  have cn1 : ¬ w.heap.size = wq3.heap.size := by have := Bc3.out.lt; omega
  have cdne := Lib.hid cn1
  have cn2 : w.heap.size < wq3.heap.size := Bc3.out.lt
  have rn1 : ¬ (w.heap.size + 1) = wq3.heap.size := by have := Br3.out.lt; omega
  have rdne := Lib.hid rn1
  have rn2 : (w.heap.size + 1) < wq3.heap.size := Br3.out.lt
  have fn1 : ¬ gf = wq3.heap.size := by have := Bf3.out.lt; omega
  have fdne := Lib.hid fn1
  have fn2 : gf < wq3.heap.size := Bf3.out.lt
  have Ac3 := Lib.hid (Bc3.out.alloc (.cells #[.int .u64 sc.next, .int .i64 sc.cap, .int .u64 sc.got, .int .u64 sc.lost] 27))
  have Ar3 := Lib.hid (Br3.out.alloc (.cells #[.int .u64 sc.next, .int .i64 sc.cap, .int .u64 sc.got, .int .u64 sc.lost] 27))
  have Af3 := Lib.hid (Bf3.out.alloc (.cells #[.int .u64 sc.next, .int .i64 sc.cap, .int .u64 sc.got, .int .u64 sc.lost] 27))
  have Ad3 := Lib.hid (Blk.new wq3 27 #[.int .u64 sc.next, .int .i64 sc.cap, .int .u64 sc.got, .int .u64 sc.lost])
  have M3 := Lib.hid (L3.out.alloc L3.out.size (.cells #[.int .u64 sc.next, .int .i64 sc.cap, .int .u64 sc.got, .int .u64 sc.lost] 27))
  clear Bc3 Br3 Bf3 L3
  go_wp2_with fail
  refine (JT.out _).mono ?_; rintro e wq4 ⟨rfl, hb4⟩
  have Bc4 := Lib.hid (Ac3.out.bl hb4)
  have Br4 := Lib.hid (Ar3.out.bl hb4)
  have Bd4 := Lib.hid (Ad3.out.bl hb4)
  have L4 := Lib.hid (bl M3.out hb4)
  clear cq0 cq1 cq2 cq3 rq0 rq1 rq2 rq3 fq0 fq1 fq2 fq3 cn1 cn2 rn1 rn2 fn1 fn2
  clear hb4 Ac3 Ar3 Ad3 M3
  generalize wq3.heap.size = gd at *
  have cq0 := Bc4.out.cell 0
  have cq1 := Bc4.out.cell 1
  have cq2 := Bc4.out.cell 2
  have cq3 := Bc4.out.cell 3
  simp only [List.getElem?_toArray, List.getElem?_cons_succ, List.getElem?_cons_zero] at cq0 cq1 cq2 cq3
  have rq0 := Br4.out.cell 0
  have rq1 := Br4.out.cell 1
  have rq2 := Br4.out.cell 2
  have rq3 := Br4.out.cell 3
  simp only [List.getElem?_toArray, List.getElem?_cons_succ, List.getElem?_cons_zero] at rq0 rq1 rq2 rq3
  have dq0 := Bd4.out.cell 0
  have dq1 := Bd4.out.cell 1
  have dq2 := Bd4.out.cell 2
  have dq3 := Bd4.out.cell 3
  simp only [List.getElem?_toArray, List.getElem?_cons_succ, List.getElem?_cons_zero] at dq0 dq1 dq2 dq3
  have tge := Lib.hid (show w.heap.size ≤ wq4.heap.size from L4.out.size)
  have cn1 : ¬ w.heap.size = wq4.heap.size := by have := Bc4.out.lt; omega
  have ctne := Lib.hid cn1
  have cn2 : w.heap.size < wq4.heap.size := Bc4.out.lt
  have rn1 : ¬ (w.heap.size + 1) = wq4.heap.size := by have := Br4.out.lt; omega
  have rtne := Lib.hid rn1
  have rn2 : (w.heap.size + 1) < wq4.heap.size := Br4.out.lt
  have dn1 : ¬ gd = wq4.heap.size := by have := Bd4.out.lt; omega
  have dtne := Lib.hid dn1
  have dn2 : gd < wq4.heap.size := Bd4.out.lt
  have Ac4 := Lib.hid (Bc4.out.alloc (.cells #[.int .u64 0, .int .i64 0, .int .u64 0, .int .u64 0] 27))
  have Ar4 := Lib.hid (Br4.out.alloc (.cells #[.int .u64 0, .int .i64 0, .int .u64 0, .int .u64 0] 27))
  have Ad4 := Lib.hid (Bd4.out.alloc (.cells #[.int .u64 0, .int .i64 0, .int .u64 0, .int .u64 0] 27))
  have At4 := Lib.hid (Blk.new wq4 27 #[.int .u64 0, .int .i64 0, .int .u64 0, .int .u64 0])
  have M4 := Lib.hid (L4.out.alloc L4.out.size (.cells #[.int .u64 0, .int .i64 0, .int .u64 0, .int .u64 0] 27))
  clear Bc4 Br4 Bd4 L4
  go_wp2_with fail
  refine (JM.out _).mono ?_; rintro e wq5 ⟨rfl, hb5⟩
  have Bc5 := Lib.hid (Ac4.out.bl hb5)
  have Br5 := Lib.hid (Ar4.out.bl hb5)
  have Bd5 := Lib.hid (Ad4.out.bl hb5)
  have Bt5 := Lib.hid (At4.out.bl hb5)
  have L5 := Lib.hid (bl M4.out hb5)
  clear cq0 cq1 cq2 cq3 rq0 rq1 rq2 rq3 dq0 dq1 dq2 dq3 cn1 cn2 rn1 rn2 dn1 dn2
  clear hb5 Ac4 Ar4 Ad4 At4 M4
  generalize wq4.heap.size = gt at *
  have cq0 := Bc5.out.cell 0
  have cq1 := Bc5.out.cell 1
  have cq2 := Bc5.out.cell 2
  have cq3 := Bc5.out.cell 3
  simp only [List.getElem?_toArray, List.getElem?_cons_succ, List.getElem?_cons_zero] at cq0 cq1 cq2 cq3
  have rq0 := Br5.out.cell 0
  have rq1 := Br5.out.cell 1
  have rq2 := Br5.out.cell 2
  have rq3 := Br5.out.cell 3
  simp only [List.getElem?_toArray, List.getElem?_cons_succ, List.getElem?_cons_zero] at rq0 rq1 rq2 rq3
  have dq0 := Bd5.out.cell 0
  have dq1 := Bd5.out.cell 1
  have dq2 := Bd5.out.cell 2
  have dq3 := Bd5.out.cell 3
  simp only [List.getElem?_toArray, List.getElem?_cons_succ, List.getElem?_cons_zero] at dq0 dq1 dq2 dq3
  have tq0 := Bt5.out.cell 0
  have tq1 := Bt5.out.cell 1
  have tq2 := Bt5.out.cell 2
  have tq3 := Bt5.out.cell 3
  simp only [List.getElem?_toArray, List.getElem?_cons_succ, List.getElem?_cons_zero] at tq0 tq1 tq2 tq3
  go_wp2_with fail
  refine (JRS.out _).mono ?_; rintro e wq6 ⟨rfl, hb6⟩
  have Bc6 := Lib.hid (Bc5.out.bl hb6)
  have Br6 := Lib.hid (Br5.out.bl hb6)
  have Bd6 := Lib.hid (Bd5.out.bl hb6)
  have Bt6 := Lib.hid (Bt5.out.bl hb6)
  have L6 := Lib.hid (bl L5.out hb6)
  clear cq0 cq1 cq2 cq3 rq0 rq1 rq2 rq3 dq0 dq1 dq2 dq3 tq0 tq1 tq2 tq3
  clear hb6 Bc5 Br5 Bd5 Bt5 L5
  have cq0 := Bc6.out.cell 0
  have cq1 := Bc6.out.cell 1
  have cq2 := Bc6.out.cell 2
  have cq3 := Bc6.out.cell 3
  simp only [List.getElem?_toArray, List.getElem?_cons_succ, List.getElem?_cons_zero] at cq0 cq1 cq2 cq3
  have rq0 := Br6.out.cell 0
  have rq1 := Br6.out.cell 1
  have rq2 := Br6.out.cell 2
  have rq3 := Br6.out.cell 3
  simp only [List.getElem?_toArray, List.getElem?_cons_succ, List.getElem?_cons_zero] at rq0 rq1 rq2 rq3
  have dq0 := Bd6.out.cell 0
  have dq1 := Bd6.out.cell 1
  have dq2 := Bd6.out.cell 2
  have dq3 := Bd6.out.cell 3
  simp only [List.getElem?_toArray, List.getElem?_cons_succ, List.getElem?_cons_zero] at dq0 dq1 dq2 dq3
  have tq0 := Bt6.out.cell 0
  have tq1 := Bt6.out.cell 1
  have tq2 := Bt6.out.cell 2
  have tq3 := Bt6.out.cell 3
  simp only [List.getElem?_toArray, List.getElem?_cons_succ, List.getElem?_cons_zero] at tq0 tq1 tq2 tq3
  have sge := Lib.hid (show w.heap.size ≤ wq6.heap.size from L6.out.size)
  have cn1 : ¬ w.heap.size = wq6.heap.size := by have := Bc6.out.lt; omega
  have csne := Lib.hid cn1
  have cn2 : w.heap.size < wq6.heap.size := Bc6.out.lt
  have rn1 : ¬ (w.heap.size + 1) = wq6.heap.size := by have := Br6.out.lt; omega
  have rsne := Lib.hid rn1
  have rn2 : (w.heap.size + 1) < wq6.heap.size := Br6.out.lt
  have dn1 : ¬ gd = wq6.heap.size := by have := Bd6.out.lt; omega
  have dsne := Lib.hid dn1
  have dn2 : gd < wq6.heap.size := Bd6.out.lt
  have tn1 : ¬ gt = wq6.heap.size := by have := Bt6.out.lt; omega
  have tsne := Lib.hid tn1
  have tn2 : gt < wq6.heap.size := Bt6.out.lt
  have Ac6 := Lib.hid (Bc6.out.alloc (.cells #[.int .u64 sc.next, .int .i64 sc.cap, .int .u64 sc.got, .int .u64 sc.lost] 46))
  have Ar6 := Lib.hid (Br6.out.alloc (.cells #[.int .u64 sc.next, .int .i64 sc.cap, .int .u64 sc.got, .int .u64 sc.lost] 46))
  have Ad6 := Lib.hid (Bd6.out.alloc (.cells #[.int .u64 sc.next, .int .i64 sc.cap, .int .u64 sc.got, .int .u64 sc.lost] 46))
  have At6 := Lib.hid (Bt6.out.alloc (.cells #[.int .u64 sc.next, .int .i64 sc.cap, .int .u64 sc.got, .int .u64 sc.lost] 46))
  have As6 := Lib.hid (Blk.new wq6 46 #[.int .u64 sc.next, .int .i64 sc.cap, .int .u64 sc.got, .int .u64 sc.lost])
  have M6 := Lib.hid (L6.out.alloc L6.out.size (.cells #[.int .u64 sc.next, .int .i64 sc.cap, .int .u64 sc.got, .int .u64 sc.lost] 46))
  clear Bc6 Br6 Bd6 Bt6 L6
  go_wp2_with fail
  refine (JW.out _).mono ?_; rintro e wq7 ⟨rfl, hb7⟩
  have Bc7 := Lib.hid (Ac6.out.bl hb7)
  have Br7 := Lib.hid (Ar6.out.bl hb7)
  have Bd7 := Lib.hid (Ad6.out.bl hb7)
  have Bt7 := Lib.hid (At6.out.bl hb7)
  have Bs7 := Lib.hid (As6.out.bl hb7)
  have L7 := Lib.hid (bl M6.out hb7)
  clear cq0 cq1 cq2 cq3 rq0 rq1 rq2 rq3 dq0 dq1 dq2 dq3 tq0 tq1 tq2 tq3 cn1 cn2 rn1 rn2 dn1 dn2 tn1 tn2
  clear hb7 Ac6 Ar6 Ad6 At6 As6 M6
  generalize wq6.heap.size = gs at *
  have cq0 := Bc7.out.cell 0
  have cq1 := Bc7.out.cell 1
  have cq2 := Bc7.out.cell 2
  have cq3 := Bc7.out.cell 3
  simp only [List.getElem?_toArray, List.getElem?_cons_succ, List.getElem?_cons_zero] at cq0 cq1 cq2 cq3
  have rq0 := Br7.out.cell 0
  have rq1 := Br7.out.cell 1
  have rq2 := Br7.out.cell 2
  have rq3 := Br7.out.cell 3
  simp only [List.getElem?_toArray, List.getElem?_cons_succ, List.getElem?_cons_zero] at rq0 rq1 rq2 rq3
  have dq0 := Bd7.out.cell 0
  have dq1 := Bd7.out.cell 1
  have dq2 := Bd7.out.cell 2
  have dq3 := Bd7.out.cell 3
  simp only [List.getElem?_toArray, List.getElem?_cons_succ, List.getElem?_cons_zero] at dq0 dq1 dq2 dq3
  have tq0 := Bt7.out.cell 0
  have tq1 := Bt7.out.cell 1
  have tq2 := Bt7.out.cell 2
  have tq3 := Bt7.out.cell 3
  simp only [List.getElem?_toArray, List.getElem?_cons_succ, List.getElem?_cons_zero] at tq0 tq1 tq2 tq3
  have sq0 := Bs7.out.cell 0
  have sq1 := Bs7.out.cell 1
  have sq2 := Bs7.out.cell 2
  have sq3 := Bs7.out.cell 3
  simp only [List.getElem?_toArray, List.getElem?_cons_succ, List.getElem?_cons_zero] at sq0 sq1 sq2 sq3
  go_wp2_with fail
  refine (JSM.out _).mono ?_; rintro e wq8 ⟨rfl, hb8⟩
  have Bc8 := Lib.hid (Bc7.out.bl hb8)
  have Br8 := Lib.hid (Br7.out.bl hb8)
  have Bd8 := Lib.hid (Bd7.out.bl hb8)
  have Bt8 := Lib.hid (Bt7.out.bl hb8)
  have Bs8 := Lib.hid (Bs7.out.bl hb8)
  have L8 := Lib.hid (bl L7.out hb8)
  clear cq0 cq1 cq2 cq3 rq0 rq1 rq2 rq3 dq0 dq1 dq2 dq3 tq0 tq1 tq2 tq3 sq0 sq1 sq2 sq3
  clear hb8 Bc7 Br7 Bd7 Bt7 Bs7 L7
  have cq0 := Bc8.out.cell 0
  have cq1 := Bc8.out.cell 1
  have cq2 := Bc8.out.cell 2
  have cq3 := Bc8.out.cell 3
  simp only [List.getElem?_toArray, List.getElem?_cons_succ, List.getElem?_cons_zero] at cq0 cq1 cq2 cq3
  have rq0 := Br8.out.cell 0
  have rq1 := Br8.out.cell 1
  have rq2 := Br8.out.cell 2
  have rq3 := Br8.out.cell 3
  simp only [List.getElem?_toArray, List.getElem?_cons_succ, List.getElem?_cons_zero] at rq0 rq1 rq2 rq3
  have dq0 := Bd8.out.cell 0
  have dq1 := Bd8.out.cell 1
  have dq2 := Bd8.out.cell 2
  have dq3 := Bd8.out.cell 3
  simp only [List.getElem?_toArray, List.getElem?_cons_succ, List.getElem?_cons_zero] at dq0 dq1 dq2 dq3
  have tq0 := Bt8.out.cell 0
  have tq1 := Bt8.out.cell 1
  have tq2 := Bt8.out.cell 2
  have tq3 := Bt8.out.cell 3
  simp only [List.getElem?_toArray, List.getElem?_cons_succ, List.getElem?_cons_zero] at tq0 tq1 tq2 tq3
  have sq0 := Bs8.out.cell 0
  have sq1 := Bs8.out.cell 1
  have sq2 := Bs8.out.cell 2
  have sq3 := Bs8.out.cell 3
  simp only [List.getElem?_toArray, List.getElem?_cons_succ, List.getElem?_cons_zero] at sq0 sq1 sq2 sq3
  go_wp2_with fail
  refine (JK.out _).mono ?_; rintro e wq9 ⟨rfl, hb9⟩
  have Bc9 := Lib.hid (Bc8.out.bl hb9)
  have Br9 := Lib.hid (Br8.out.bl hb9)
  have Bd9 := Lib.hid (Bd8.out.bl hb9)
  have Bt9 := Lib.hid (Bt8.out.bl hb9)
  have Bs9 := Lib.hid (Bs8.out.bl hb9)
  have L9 := Lib.hid (bl L8.out hb9)
  clear cq0 cq1 cq2 cq3 rq0 rq1 rq2 rq3 dq0 dq1 dq2 dq3 tq0 tq1 tq2 tq3 sq0 sq1 sq2 sq3
  clear hb9 Bc8 Br8 Bd8 Bt8 Bs8 L8
  have cq0 := Bc9.out.cell 0
  have cq1 := Bc9.out.cell 1
  have cq2 := Bc9.out.cell 2
  have cq3 := Bc9.out.cell 3
  simp only [List.getElem?_toArray, List.getElem?_cons_succ, List.getElem?_cons_zero] at cq0 cq1 cq2 cq3
  have rq0 := Br9.out.cell 0
  have rq1 := Br9.out.cell 1
  have rq2 := Br9.out.cell 2
  have rq3 := Br9.out.cell 3
  simp only [List.getElem?_toArray, List.getElem?_cons_succ, List.getElem?_cons_zero] at rq0 rq1 rq2 rq3
  have dq0 := Bd9.out.cell 0
  have dq1 := Bd9.out.cell 1
  have dq2 := Bd9.out.cell 2
  have dq3 := Bd9.out.cell 3
  simp only [List.getElem?_toArray, List.getElem?_cons_succ, List.getElem?_cons_zero] at dq0 dq1 dq2 dq3
  have tq0 := Bt9.out.cell 0
  have tq1 := Bt9.out.cell 1
  have tq2 := Bt9.out.cell 2
  have tq3 := Bt9.out.cell 3
  simp only [List.getElem?_toArray, List.getElem?_cons_succ, List.getElem?_cons_zero] at tq0 tq1 tq2 tq3
  have sq0 := Bs9.out.cell 0
  have sq1 := Bs9.out.cell 1
  have sq2 := Bs9.out.cell 2
  have sq3 := Bs9.out.cell 3
  simp only [List.getElem?_toArray, List.getElem?_cons_succ, List.getElem?_cons_zero] at sq0 sq1 sq2 sq3
  go_wp2_with fail
  refine (awake_any _).mono ?_; rintro e wq10 ⟨rfl, hb10⟩
  have Bc10 := Lib.hid (Bc9.out.bl hb10)
  have Br10 := Lib.hid (Br9.out.bl hb10)
  have Bd10 := Lib.hid (Bd9.out.bl hb10)
  have Bt10 := Lib.hid (Bt9.out.bl hb10)
  have Bs10 := Lib.hid (Bs9.out.bl hb10)
  have L10 := Lib.hid (bl L9.out hb10)
  clear cq0 cq1 cq2 cq3 rq0 rq1 rq2 rq3 dq0 dq1 dq2 dq3 tq0 tq1 tq2 tq3 sq0 sq1 sq2 sq3
  clear hb10 Bc9 Br9 Bd9 Bt9 Bs9 L9
  have cq0 := Bc10.out.cell 0
  have cq1 := Bc10.out.cell 1
  have cq2 := Bc10.out.cell 2
  have cq3 := Bc10.out.cell 3
  simp only [List.getElem?_toArray, List.getElem?_cons_succ, List.getElem?_cons_zero] at cq0 cq1 cq2 cq3
  have rq0 := Br10.out.cell 0
  have rq1 := Br10.out.cell 1
  have rq2 := Br10.out.cell 2
  have rq3 := Br10.out.cell 3
  simp only [List.getElem?_toArray, List.getElem?_cons_succ, List.getElem?_cons_zero] at rq0 rq1 rq2 rq3
  have dq0 := Bd10.out.cell 0
  have dq1 := Bd10.out.cell 1
  have dq2 := Bd10.out.cell 2
  have dq3 := Bd10.out.cell 3
  simp only [List.getElem?_toArray, List.getElem?_cons_succ, List.getElem?_cons_zero] at dq0 dq1 dq2 dq3
  have tq0 := Bt10.out.cell 0
  have tq1 := Bt10.out.cell 1
  have tq2 := Bt10.out.cell 2
  have tq3 := Bt10.out.cell 3
  simp only [List.getElem?_toArray, List.getElem?_cons_succ, List.getElem?_cons_zero] at tq0 tq1 tq2 tq3
  have sq0 := Bs10.out.cell 0
  have sq1 := Bs10.out.cell 1
  have sq2 := Bs10.out.cell 2
  have sq3 := Bs10.out.cell 3
  simp only [List.getElem?_toArray, List.getElem?_cons_succ, List.getElem?_cons_zero] at sq0 sq1 sq2 sq3
  go_wp2_with fail
  go_ret
  exact ⟨rfl, L10.out⟩

set_option maxRecDepth 100000 in
set_option maxHeartbeats 4000000 in
theorem curs_A3_n0 (c : Cur) (g room : Int) (sc : Cur) (me n : Int) (w : World) (hg0 : 0 ≤ g) (hg1 : g ≤ 18446744073709551615)
    (hgi : g < 9223372036854775808)
    (hr1 : decide (room < 1) = false) (hr2 : decide (15 < room) = true)
    (HN : ∀ w, Calls Try.prog 11 #[.int .u64 g, .int .i64 room] w fun e w' => e = .returned (.tuple #[.agg #[.int .u64 0, .int .i64 0, .int .u64 0, .int .u64 0], .int .i64 10]) ∧ Below w.heap.size w w')
    (HI : ∀ w, Calls Try.prog 17 #[.int .u64 g] w fun e w' => e = .returned (.bool true) ∧ Below w.heap.size w w')
    (HS : ∀ w, Calls Try.prog 15 #[c.val, .int .u64 g] w fun e w' => e = .returned (.tuple #[.agg #[.int .u64 sc.next, .int .i64 sc.cap, .int .u64 sc.got, .int .u64 sc.lost], .int .i64 0]) ∧ Below w.heap.size w w')
    (HT : ∀ w, Calls Try.prog 13 #[c.val, .int .u64 g] w fun e w' => e = .returned (.tuple #[.int .u64 0, .agg #[.int .u64 0, .int .i64 0, .int .u64 0, .int .u64 0], .int .i64 14]) ∧ Below w.heap.size w w')
    (HM : ∀ w, Calls Try.prog 18 #[c.val, .int .u64 g] w fun e w' => e = .returned (.int .i64 0) ∧ Below w.heap.size w w')
    (HK : ∀ w, Calls Try.prog 16 #[c.val, .int .u64 g] w fun e w' => e = .returned (.int .i64 0) ∧ Below w.heap.size w w')
    (HRS : ∀ w, Calls Try.prog 19 #[c.val, .int .u64 g] w fun e w' => e = .returned (.agg #[.int .u64 sc.next, .int .i64 sc.cap, .int .u64 sc.got, .int .u64 sc.lost]) ∧ Below w.heap.size w w')
    (HW : ∀ w, Calls Try.prog 20 #[.agg #[.int .u64 sc.next, .int .i64 sc.cap, .int .u64 sc.got, .int .u64 sc.lost], .int .u64 g] w fun e w' => e = .returned (.int .u64 0) ∧ Below w.heap.size w w')
    (HSM : ∀ w, Calls Try.prog 21 #[.agg #[.int .u64 sc.next, .int .i64 sc.cap, .int .u64 sc.got, .int .u64 sc.lost], .agg #[.int .u64 sc.next, .int .i64 sc.cap, .int .u64 sc.got, .int .u64 sc.lost]] w fun e w' => e = .returned (.bool true) ∧ Below w.heap.size w w') :
    Calls Try.prog 6 #[c.val, .int .u64 g, .int .i64 room] w fun e w' => e = .returned (.bool true) ∧ Below w.heap.size w w' := by
  have JN := Lib.hid HN
  have JI := Lib.hid HI
  have JS := Lib.hid HS
  have JT := Lib.hid HT
  have JM := Lib.hid HM
  have JK := Lib.hid HK
  have JRS := Lib.hid HRS
  have JW := Lib.hid HW
  have JSM := Lib.hid HSM
  clear HN HI HS HT HM HK HRS HW HSM
  unfold Cur.val at *
  go_enter Try.func6, Try.ntmps6
  have B00 := Lib.hid ((Blk.new w 27 #[.int .u64 c.next, .int .i64 c.cap, .int .u64 c.got, .int .u64 c.lost]).alloc (.cells #[.int .u64 c.next, .int .i64 c.cap, .int .u64 c.got, .int .u64 c.lost] 46))
  have R00 := Lib.hid (show Blk ((w.alloc (.cells #[.int .u64 c.next, .int .i64 c.cap, .int .u64 c.got, .int .u64 c.lost] 27)).alloc (.cells #[.int .u64 c.next, .int .i64 c.cap, .int .u64 c.got, .int .u64 c.lost] 46)) (w.heap.size + 1) 46 #[.int .u64 c.next, .int .i64 c.cap, .int .u64 c.got, .int .u64 c.lost] by have := Blk.new (w.alloc (.cells #[.int .u64 c.next, .int .i64 c.cap, .int .u64 c.got, .int .u64 c.lost] 27)) 46 #[.int .u64 c.next, .int .i64 c.cap, .int .u64 c.got, .int .u64 c.lost]; rwa [World.size_alloc] at this)
  have L0 := Lib.hid (((Below.refl w.heap.size w).alloc (Nat.le_refl _) (.cells #[.int .u64 c.next, .int .i64 c.cap, .int .u64 c.got, .int .u64 c.lost] 27)).alloc (by simp) (.cells #[.int .u64 c.next, .int .i64 c.cap, .int .u64 c.got, .int .u64 c.lost] 46))
  go_wp2_with fail
  refine (JN.out _).mono ?_; rintro e wq1 ⟨rfl, hb1⟩
  have Bc1 := Lib.hid (B00.out.bl hb1)
  have Br1 := Lib.hid (R00.out.bl hb1)
  have L1 := Lib.hid (bl L0.out hb1)
  clear hb1 B00 R00 L0
  have cq0 := Bc1.out.cell 0
  have cq1 := Bc1.out.cell 1
  have cq2 := Bc1.out.cell 2
  have cq3 := Bc1.out.cell 3
  simp only [List.getElem?_toArray, List.getElem?_cons_succ, List.getElem?_cons_zero] at cq0 cq1 cq2 cq3
  have rq0 := Br1.out.cell 0
  have rq1 := Br1.out.cell 1
  have rq2 := Br1.out.cell 2
  have rq3 := Br1.out.cell 3
  simp only [List.getElem?_toArray, List.getElem?_cons_succ, List.getElem?_cons_zero] at rq0 rq1 rq2 rq3
  have fge := Lib.hid (show w.heap.size ≤ wq1.heap.size from L1.out.size)
  have cn1 : ¬ w.heap.size = wq1.heap.size := by have := Bc1.out.lt; omega
  have cfne := Lib.hid cn1
  have cn2 : w.heap.size < wq1.heap.size := Bc1.out.lt
  have rn1 : ¬ (w.heap.size + 1) = wq1.heap.size := by have := Br1.out.lt; omega
  have rfne := Lib.hid rn1
  have rn2 : (w.heap.size + 1) < wq1.heap.size := Br1.out.lt
  have Ac1 := Lib.hid (Bc1.out.alloc (.cells #[.int .u64 0, .int .i64 0, .int .u64 0, .int .u64 0] 27))
  have Ar1 := Lib.hid (Br1.out.alloc (.cells #[.int .u64 0, .int .i64 0, .int .u64 0, .int .u64 0] 27))
  have Af1 := Lib.hid (Blk.new wq1 27 #[.int .u64 0, .int .i64 0, .int .u64 0, .int .u64 0])
  have M1 := Lib.hid (L1.out.alloc L1.out.size (.cells #[.int .u64 0, .int .i64 0, .int .u64 0, .int .u64 0] 27))
  clear Bc1 Br1 L1
  go_wp2_with fail
  refine (JI.out _).mono ?_; rintro e wq2 ⟨rfl, hb2⟩
  have Bc2 := Lib.hid (Ac1.out.bl hb2)
  have Br2 := Lib.hid (Ar1.out.bl hb2)
  have Bf2 := Lib.hid (Af1.out.bl hb2)
  have L2 := Lib.hid (bl M1.out hb2)
  clear cq0 cq1 cq2 cq3 rq0 rq1 rq2 rq3 cn1 cn2 rn1 rn2
  clear hb2 Ac1 Ar1 Af1 M1
  generalize wq1.heap.size = gf at *
  have cq0 := Bc2.out.cell 0
  have cq1 := Bc2.out.cell 1
  have cq2 := Bc2.out.cell 2
  have cq3 := Bc2.out.cell 3
  simp only [List.getElem?_toArray, List.getElem?_cons_succ, List.getElem?_cons_zero] at cq0 cq1 cq2 cq3
  have rq0 := Br2.out.cell 0
  have rq1 := Br2.out.cell 1
  have rq2 := Br2.out.cell 2
  have rq3 := Br2.out.cell 3
  simp only [List.getElem?_toArray, List.getElem?_cons_succ, List.getElem?_cons_zero] at rq0 rq1 rq2 rq3
  have fq0 := Bf2.out.cell 0
  have fq1 := Bf2.out.cell 1
  have fq2 := Bf2.out.cell 2
  have fq3 := Bf2.out.cell 3
  simp only [List.getElem?_toArray, List.getElem?_cons_succ, List.getElem?_cons_zero] at fq0 fq1 fq2 fq3
  go_wp2_with fail
  refine (JS.out _).mono ?_; rintro e wq3 ⟨rfl, hb3⟩
  have Bc3 := Lib.hid (Bc2.out.bl hb3)
  have Br3 := Lib.hid (Br2.out.bl hb3)
  have Bf3 := Lib.hid (Bf2.out.bl hb3)
  have L3 := Lib.hid (bl L2.out hb3)
  clear cq0 cq1 cq2 cq3 rq0 rq1 rq2 rq3 fq0 fq1 fq2 fq3
  clear hb3 Bc2 Br2 Bf2 L2
  have cq0 := Bc3.out.cell 0
  have cq1 := Bc3.out.cell 1
  have cq2 := Bc3.out.cell 2
  have cq3 := Bc3.out.cell 3
  simp only [List.getElem?_toArray, List.getElem?_cons_succ, List.getElem?_cons_zero] at cq0 cq1 cq2 cq3
  have rq0 := Br3.out.cell 0
  have rq1 := Br3.out.cell 1
  have rq2 := Br3.out.cell 2
  have rq3 := Br3.out.cell 3
  simp only [List.getElem?_toArray, List.getElem?_cons_succ, List.getElem?_cons_zero] at rq0 rq1 rq2 rq3
  have fq0 := Bf3.out.cell 0
  have fq1 := Bf3.out.cell 1
  have fq2 := Bf3.out.cell 2
  have fq3 := Bf3.out.cell 3
  simp only [List.getElem?_toArray, List.getElem?_cons_succ, List.getElem?_cons_zero] at fq0 fq1 fq2 fq3
  have dge := Lib.hid (show w.heap.size ≤ wq3.heap.size from L3.out.size)
  have cn1 : ¬ w.heap.size = wq3.heap.size := by have := Bc3.out.lt; omega
  have cdne := Lib.hid cn1
  have cn2 : w.heap.size < wq3.heap.size := Bc3.out.lt
  have rn1 : ¬ (w.heap.size + 1) = wq3.heap.size := by have := Br3.out.lt; omega
  have rdne := Lib.hid rn1
  have rn2 : (w.heap.size + 1) < wq3.heap.size := Br3.out.lt
  have fn1 : ¬ gf = wq3.heap.size := by have := Bf3.out.lt; omega
  have fdne := Lib.hid fn1
  have fn2 : gf < wq3.heap.size := Bf3.out.lt
  have Ac3 := Lib.hid (Bc3.out.alloc (.cells #[.int .u64 sc.next, .int .i64 sc.cap, .int .u64 sc.got, .int .u64 sc.lost] 27))
  have Ar3 := Lib.hid (Br3.out.alloc (.cells #[.int .u64 sc.next, .int .i64 sc.cap, .int .u64 sc.got, .int .u64 sc.lost] 27))
  have Af3 := Lib.hid (Bf3.out.alloc (.cells #[.int .u64 sc.next, .int .i64 sc.cap, .int .u64 sc.got, .int .u64 sc.lost] 27))
  have Ad3 := Lib.hid (Blk.new wq3 27 #[.int .u64 sc.next, .int .i64 sc.cap, .int .u64 sc.got, .int .u64 sc.lost])
  have M3 := Lib.hid (L3.out.alloc L3.out.size (.cells #[.int .u64 sc.next, .int .i64 sc.cap, .int .u64 sc.got, .int .u64 sc.lost] 27))
  clear Bc3 Br3 Bf3 L3
  go_wp2_with fail
  refine (JT.out _).mono ?_; rintro e wq4 ⟨rfl, hb4⟩
  have Bc4 := Lib.hid (Ac3.out.bl hb4)
  have Br4 := Lib.hid (Ar3.out.bl hb4)
  have Bd4 := Lib.hid (Ad3.out.bl hb4)
  have L4 := Lib.hid (bl M3.out hb4)
  clear cq0 cq1 cq2 cq3 rq0 rq1 rq2 rq3 fq0 fq1 fq2 fq3 cn1 cn2 rn1 rn2 fn1 fn2
  clear hb4 Ac3 Ar3 Ad3 M3
  generalize wq3.heap.size = gd at *
  have cq0 := Bc4.out.cell 0
  have cq1 := Bc4.out.cell 1
  have cq2 := Bc4.out.cell 2
  have cq3 := Bc4.out.cell 3
  simp only [List.getElem?_toArray, List.getElem?_cons_succ, List.getElem?_cons_zero] at cq0 cq1 cq2 cq3
  have rq0 := Br4.out.cell 0
  have rq1 := Br4.out.cell 1
  have rq2 := Br4.out.cell 2
  have rq3 := Br4.out.cell 3
  simp only [List.getElem?_toArray, List.getElem?_cons_succ, List.getElem?_cons_zero] at rq0 rq1 rq2 rq3
  have dq0 := Bd4.out.cell 0
  have dq1 := Bd4.out.cell 1
  have dq2 := Bd4.out.cell 2
  have dq3 := Bd4.out.cell 3
  simp only [List.getElem?_toArray, List.getElem?_cons_succ, List.getElem?_cons_zero] at dq0 dq1 dq2 dq3
  have tge := Lib.hid (show w.heap.size ≤ wq4.heap.size from L4.out.size)
  have cn1 : ¬ w.heap.size = wq4.heap.size := by have := Bc4.out.lt; omega
  have ctne := Lib.hid cn1
  have cn2 : w.heap.size < wq4.heap.size := Bc4.out.lt
  have rn1 : ¬ (w.heap.size + 1) = wq4.heap.size := by have := Br4.out.lt; omega
  have rtne := Lib.hid rn1
  have rn2 : (w.heap.size + 1) < wq4.heap.size := Br4.out.lt
  have dn1 : ¬ gd = wq4.heap.size := by have := Bd4.out.lt; omega
  have dtne := Lib.hid dn1
  have dn2 : gd < wq4.heap.size := Bd4.out.lt
  have Ac4 := Lib.hid (Bc4.out.alloc (.cells #[.int .u64 0, .int .i64 0, .int .u64 0, .int .u64 0] 27))
  have Ar4 := Lib.hid (Br4.out.alloc (.cells #[.int .u64 0, .int .i64 0, .int .u64 0, .int .u64 0] 27))
  have Ad4 := Lib.hid (Bd4.out.alloc (.cells #[.int .u64 0, .int .i64 0, .int .u64 0, .int .u64 0] 27))
  have At4 := Lib.hid (Blk.new wq4 27 #[.int .u64 0, .int .i64 0, .int .u64 0, .int .u64 0])
  have M4 := Lib.hid (L4.out.alloc L4.out.size (.cells #[.int .u64 0, .int .i64 0, .int .u64 0, .int .u64 0] 27))
  clear Bc4 Br4 Bd4 L4
  go_wp2_with fail
  refine (JM.out _).mono ?_; rintro e wq5 ⟨rfl, hb5⟩
  have Bc5 := Lib.hid (Ac4.out.bl hb5)
  have Br5 := Lib.hid (Ar4.out.bl hb5)
  have Bd5 := Lib.hid (Ad4.out.bl hb5)
  have Bt5 := Lib.hid (At4.out.bl hb5)
  have L5 := Lib.hid (bl M4.out hb5)
  clear cq0 cq1 cq2 cq3 rq0 rq1 rq2 rq3 dq0 dq1 dq2 dq3 cn1 cn2 rn1 rn2 dn1 dn2
  clear hb5 Ac4 Ar4 Ad4 At4 M4
  generalize wq4.heap.size = gt at *
  have cq0 := Bc5.out.cell 0
  have cq1 := Bc5.out.cell 1
  have cq2 := Bc5.out.cell 2
  have cq3 := Bc5.out.cell 3
  simp only [List.getElem?_toArray, List.getElem?_cons_succ, List.getElem?_cons_zero] at cq0 cq1 cq2 cq3
  have rq0 := Br5.out.cell 0
  have rq1 := Br5.out.cell 1
  have rq2 := Br5.out.cell 2
  have rq3 := Br5.out.cell 3
  simp only [List.getElem?_toArray, List.getElem?_cons_succ, List.getElem?_cons_zero] at rq0 rq1 rq2 rq3
  have dq0 := Bd5.out.cell 0
  have dq1 := Bd5.out.cell 1
  have dq2 := Bd5.out.cell 2
  have dq3 := Bd5.out.cell 3
  simp only [List.getElem?_toArray, List.getElem?_cons_succ, List.getElem?_cons_zero] at dq0 dq1 dq2 dq3
  have tq0 := Bt5.out.cell 0
  have tq1 := Bt5.out.cell 1
  have tq2 := Bt5.out.cell 2
  have tq3 := Bt5.out.cell 3
  simp only [List.getElem?_toArray, List.getElem?_cons_succ, List.getElem?_cons_zero] at tq0 tq1 tq2 tq3
  go_wp2_with fail
  refine (JRS.out _).mono ?_; rintro e wq6 ⟨rfl, hb6⟩
  have Bc6 := Lib.hid (Bc5.out.bl hb6)
  have Br6 := Lib.hid (Br5.out.bl hb6)
  have Bd6 := Lib.hid (Bd5.out.bl hb6)
  have Bt6 := Lib.hid (Bt5.out.bl hb6)
  have L6 := Lib.hid (bl L5.out hb6)
  clear cq0 cq1 cq2 cq3 rq0 rq1 rq2 rq3 dq0 dq1 dq2 dq3 tq0 tq1 tq2 tq3
  clear hb6 Bc5 Br5 Bd5 Bt5 L5
  have cq0 := Bc6.out.cell 0
  have cq1 := Bc6.out.cell 1
  have cq2 := Bc6.out.cell 2
  have cq3 := Bc6.out.cell 3
  simp only [List.getElem?_toArray, List.getElem?_cons_succ, List.getElem?_cons_zero] at cq0 cq1 cq2 cq3
  have rq0 := Br6.out.cell 0
  have rq1 := Br6.out.cell 1
  have rq2 := Br6.out.cell 2
  have rq3 := Br6.out.cell 3
  simp only [List.getElem?_toArray, List.getElem?_cons_succ, List.getElem?_cons_zero] at rq0 rq1 rq2 rq3
  have dq0 := Bd6.out.cell 0
  have dq1 := Bd6.out.cell 1
  have dq2 := Bd6.out.cell 2
  have dq3 := Bd6.out.cell 3
  simp only [List.getElem?_toArray, List.getElem?_cons_succ, List.getElem?_cons_zero] at dq0 dq1 dq2 dq3
  have tq0 := Bt6.out.cell 0
  have tq1 := Bt6.out.cell 1
  have tq2 := Bt6.out.cell 2
  have tq3 := Bt6.out.cell 3
  simp only [List.getElem?_toArray, List.getElem?_cons_succ, List.getElem?_cons_zero] at tq0 tq1 tq2 tq3
  have sge := Lib.hid (show w.heap.size ≤ wq6.heap.size from L6.out.size)
  have cn1 : ¬ w.heap.size = wq6.heap.size := by have := Bc6.out.lt; omega
  have csne := Lib.hid cn1
  have cn2 : w.heap.size < wq6.heap.size := Bc6.out.lt
  have rn1 : ¬ (w.heap.size + 1) = wq6.heap.size := by have := Br6.out.lt; omega
  have rsne := Lib.hid rn1
  have rn2 : (w.heap.size + 1) < wq6.heap.size := Br6.out.lt
  have dn1 : ¬ gd = wq6.heap.size := by have := Bd6.out.lt; omega
  have dsne := Lib.hid dn1
  have dn2 : gd < wq6.heap.size := Bd6.out.lt
  have tn1 : ¬ gt = wq6.heap.size := by have := Bt6.out.lt; omega
  have tsne := Lib.hid tn1
  have tn2 : gt < wq6.heap.size := Bt6.out.lt
  have Ac6 := Lib.hid (Bc6.out.alloc (.cells #[.int .u64 sc.next, .int .i64 sc.cap, .int .u64 sc.got, .int .u64 sc.lost] 46))
  have Ar6 := Lib.hid (Br6.out.alloc (.cells #[.int .u64 sc.next, .int .i64 sc.cap, .int .u64 sc.got, .int .u64 sc.lost] 46))
  have Ad6 := Lib.hid (Bd6.out.alloc (.cells #[.int .u64 sc.next, .int .i64 sc.cap, .int .u64 sc.got, .int .u64 sc.lost] 46))
  have At6 := Lib.hid (Bt6.out.alloc (.cells #[.int .u64 sc.next, .int .i64 sc.cap, .int .u64 sc.got, .int .u64 sc.lost] 46))
  have As6 := Lib.hid (Blk.new wq6 46 #[.int .u64 sc.next, .int .i64 sc.cap, .int .u64 sc.got, .int .u64 sc.lost])
  have M6 := Lib.hid (L6.out.alloc L6.out.size (.cells #[.int .u64 sc.next, .int .i64 sc.cap, .int .u64 sc.got, .int .u64 sc.lost] 46))
  clear Bc6 Br6 Bd6 Bt6 L6
  go_wp2_with fail
  refine (JW.out _).mono ?_; rintro e wq7 ⟨rfl, hb7⟩
  have Bc7 := Lib.hid (Ac6.out.bl hb7)
  have Br7 := Lib.hid (Ar6.out.bl hb7)
  have Bd7 := Lib.hid (Ad6.out.bl hb7)
  have Bt7 := Lib.hid (At6.out.bl hb7)
  have Bs7 := Lib.hid (As6.out.bl hb7)
  have L7 := Lib.hid (bl M6.out hb7)
  clear cq0 cq1 cq2 cq3 rq0 rq1 rq2 rq3 dq0 dq1 dq2 dq3 tq0 tq1 tq2 tq3 cn1 cn2 rn1 rn2 dn1 dn2 tn1 tn2
  clear hb7 Ac6 Ar6 Ad6 At6 As6 M6
  generalize wq6.heap.size = gs at *
  have cq0 := Bc7.out.cell 0
  have cq1 := Bc7.out.cell 1
  have cq2 := Bc7.out.cell 2
  have cq3 := Bc7.out.cell 3
  simp only [List.getElem?_toArray, List.getElem?_cons_succ, List.getElem?_cons_zero] at cq0 cq1 cq2 cq3
  have rq0 := Br7.out.cell 0
  have rq1 := Br7.out.cell 1
  have rq2 := Br7.out.cell 2
  have rq3 := Br7.out.cell 3
  simp only [List.getElem?_toArray, List.getElem?_cons_succ, List.getElem?_cons_zero] at rq0 rq1 rq2 rq3
  have dq0 := Bd7.out.cell 0
  have dq1 := Bd7.out.cell 1
  have dq2 := Bd7.out.cell 2
  have dq3 := Bd7.out.cell 3
  simp only [List.getElem?_toArray, List.getElem?_cons_succ, List.getElem?_cons_zero] at dq0 dq1 dq2 dq3
  have tq0 := Bt7.out.cell 0
  have tq1 := Bt7.out.cell 1
  have tq2 := Bt7.out.cell 2
  have tq3 := Bt7.out.cell 3
  simp only [List.getElem?_toArray, List.getElem?_cons_succ, List.getElem?_cons_zero] at tq0 tq1 tq2 tq3
  have sq0 := Bs7.out.cell 0
  have sq1 := Bs7.out.cell 1
  have sq2 := Bs7.out.cell 2
  have sq3 := Bs7.out.cell 3
  simp only [List.getElem?_toArray, List.getElem?_cons_succ, List.getElem?_cons_zero] at sq0 sq1 sq2 sq3
  go_wp2_with fail
  refine (JSM.out _).mono ?_; rintro e wq8 ⟨rfl, hb8⟩
  have Bc8 := Lib.hid (Bc7.out.bl hb8)
  have Br8 := Lib.hid (Br7.out.bl hb8)
  have Bd8 := Lib.hid (Bd7.out.bl hb8)
  have Bt8 := Lib.hid (Bt7.out.bl hb8)
  have Bs8 := Lib.hid (Bs7.out.bl hb8)
  have L8 := Lib.hid (bl L7.out hb8)
  clear cq0 cq1 cq2 cq3 rq0 rq1 rq2 rq3 dq0 dq1 dq2 dq3 tq0 tq1 tq2 tq3 sq0 sq1 sq2 sq3
  clear hb8 Bc7 Br7 Bd7 Bt7 Bs7 L7
  have cq0 := Bc8.out.cell 0
  have cq1 := Bc8.out.cell 1
  have cq2 := Bc8.out.cell 2
  have cq3 := Bc8.out.cell 3
  simp only [List.getElem?_toArray, List.getElem?_cons_succ, List.getElem?_cons_zero] at cq0 cq1 cq2 cq3
  have rq0 := Br8.out.cell 0
  have rq1 := Br8.out.cell 1
  have rq2 := Br8.out.cell 2
  have rq3 := Br8.out.cell 3
  simp only [List.getElem?_toArray, List.getElem?_cons_succ, List.getElem?_cons_zero] at rq0 rq1 rq2 rq3
  have dq0 := Bd8.out.cell 0
  have dq1 := Bd8.out.cell 1
  have dq2 := Bd8.out.cell 2
  have dq3 := Bd8.out.cell 3
  simp only [List.getElem?_toArray, List.getElem?_cons_succ, List.getElem?_cons_zero] at dq0 dq1 dq2 dq3
  have tq0 := Bt8.out.cell 0
  have tq1 := Bt8.out.cell 1
  have tq2 := Bt8.out.cell 2
  have tq3 := Bt8.out.cell 3
  simp only [List.getElem?_toArray, List.getElem?_cons_succ, List.getElem?_cons_zero] at tq0 tq1 tq2 tq3
  have sq0 := Bs8.out.cell 0
  have sq1 := Bs8.out.cell 1
  have sq2 := Bs8.out.cell 2
  have sq3 := Bs8.out.cell 3
  simp only [List.getElem?_toArray, List.getElem?_cons_succ, List.getElem?_cons_zero] at sq0 sq1 sq2 sq3
  go_wp2_with fail
  refine (JK.out _).mono ?_; rintro e wq9 ⟨rfl, hb9⟩
  have Bc9 := Lib.hid (Bc8.out.bl hb9)
  have Br9 := Lib.hid (Br8.out.bl hb9)
  have Bd9 := Lib.hid (Bd8.out.bl hb9)
  have Bt9 := Lib.hid (Bt8.out.bl hb9)
  have Bs9 := Lib.hid (Bs8.out.bl hb9)
  have L9 := Lib.hid (bl L8.out hb9)
  clear cq0 cq1 cq2 cq3 rq0 rq1 rq2 rq3 dq0 dq1 dq2 dq3 tq0 tq1 tq2 tq3 sq0 sq1 sq2 sq3
  clear hb9 Bc8 Br8 Bd8 Bt8 Bs8 L8
  have cq0 := Bc9.out.cell 0
  have cq1 := Bc9.out.cell 1
  have cq2 := Bc9.out.cell 2
  have cq3 := Bc9.out.cell 3
  simp only [List.getElem?_toArray, List.getElem?_cons_succ, List.getElem?_cons_zero] at cq0 cq1 cq2 cq3
  have rq0 := Br9.out.cell 0
  have rq1 := Br9.out.cell 1
  have rq2 := Br9.out.cell 2
  have rq3 := Br9.out.cell 3
  simp only [List.getElem?_toArray, List.getElem?_cons_succ, List.getElem?_cons_zero] at rq0 rq1 rq2 rq3
  have dq0 := Bd9.out.cell 0
  have dq1 := Bd9.out.cell 1
  have dq2 := Bd9.out.cell 2
  have dq3 := Bd9.out.cell 3
  simp only [List.getElem?_toArray, List.getElem?_cons_succ, List.getElem?_cons_zero] at dq0 dq1 dq2 dq3
  have tq0 := Bt9.out.cell 0
  have tq1 := Bt9.out.cell 1
  have tq2 := Bt9.out.cell 2
  have tq3 := Bt9.out.cell 3
  simp only [List.getElem?_toArray, List.getElem?_cons_succ, List.getElem?_cons_zero] at tq0 tq1 tq2 tq3
  have sq0 := Bs9.out.cell 0
  have sq1 := Bs9.out.cell 1
  have sq2 := Bs9.out.cell 2
  have sq3 := Bs9.out.cell 3
  simp only [List.getElem?_toArray, List.getElem?_cons_succ, List.getElem?_cons_zero] at sq0 sq1 sq2 sq3
  go_wp2_with fail
  refine (awake_any _).mono ?_; rintro e wq10 ⟨rfl, hb10⟩
  have Bc10 := Lib.hid (Bc9.out.bl hb10)
  have Br10 := Lib.hid (Br9.out.bl hb10)
  have Bd10 := Lib.hid (Bd9.out.bl hb10)
  have Bt10 := Lib.hid (Bt9.out.bl hb10)
  have Bs10 := Lib.hid (Bs9.out.bl hb10)
  have L10 := Lib.hid (bl L9.out hb10)
  clear cq0 cq1 cq2 cq3 rq0 rq1 rq2 rq3 dq0 dq1 dq2 dq3 tq0 tq1 tq2 tq3 sq0 sq1 sq2 sq3
  clear hb10 Bc9 Br9 Bd9 Bt9 Bs9 L9
  have cq0 := Bc10.out.cell 0
  have cq1 := Bc10.out.cell 1
  have cq2 := Bc10.out.cell 2
  have cq3 := Bc10.out.cell 3
  simp only [List.getElem?_toArray, List.getElem?_cons_succ, List.getElem?_cons_zero] at cq0 cq1 cq2 cq3
  have rq0 := Br10.out.cell 0
  have rq1 := Br10.out.cell 1
  have rq2 := Br10.out.cell 2
  have rq3 := Br10.out.cell 3
  simp only [List.getElem?_toArray, List.getElem?_cons_succ, List.getElem?_cons_zero] at rq0 rq1 rq2 rq3
  have dq0 := Bd10.out.cell 0
  have dq1 := Bd10.out.cell 1
  have dq2 := Bd10.out.cell 2
  have dq3 := Bd10.out.cell 3
  simp only [List.getElem?_toArray, List.getElem?_cons_succ, List.getElem?_cons_zero] at dq0 dq1 dq2 dq3
  have tq0 := Bt10.out.cell 0
  have tq1 := Bt10.out.cell 1
  have tq2 := Bt10.out.cell 2
  have tq3 := Bt10.out.cell 3
  simp only [List.getElem?_toArray, List.getElem?_cons_succ, List.getElem?_cons_zero] at tq0 tq1 tq2 tq3
  have sq0 := Bs10.out.cell 0
  have sq1 := Bs10.out.cell 1
  have sq2 := Bs10.out.cell 2
  have sq3 := Bs10.out.cell 3
  simp only [List.getElem?_toArray, List.getElem?_cons_succ, List.getElem?_cons_zero] at sq0 sq1 sq2 sq3
  go_wp2_with fail
  go_ret
  exact ⟨rfl, L10.out⟩

set_option maxRecDepth 100000 in
set_option maxHeartbeats 4000000 in
theorem curs_A4_n0 (c : Cur) (g room : Int) (sc : Cur) (me n : Int) (w : World) (hg0 : 0 ≤ g) (hg1 : g ≤ 18446744073709551615)
    (hgi : g < 9223372036854775808)
    (hr1 : decide (room < 1) = false) (hr2 : decide (15 < room) = false)
    (HN : ∀ w, Calls Try.prog 11 #[.int .u64 g, .int .i64 room] w fun e w' => e = .returned (.tuple #[.agg #[.int .u64 (g + 1), .int .i64 room, .int .u64 0, .int .u64 0], .int .i64 0]) ∧ Below w.heap.size w w')
    (HI : ∀ w, Calls Try.prog 17 #[.int .u64 g] w fun e w' => e = .returned (.bool true) ∧ Below w.heap.size w w')
    (HS : ∀ w, Calls Try.prog 15 #[c.val, .int .u64 g] w fun e w' => e = .returned (.tuple #[.agg #[.int .u64 sc.next, .int .i64 sc.cap, .int .u64 sc.got, .int .u64 sc.lost], .int .i64 0]) ∧ Below w.heap.size w w')
    (HT : ∀ w, Calls Try.prog 13 #[c.val, .int .u64 g] w fun e w' => e = .returned (.tuple #[.int .u64 0, .agg #[.int .u64 0, .int .i64 0, .int .u64 0, .int .u64 0], .int .i64 14]) ∧ Below w.heap.size w w')
    (HM : ∀ w, Calls Try.prog 18 #[c.val, .int .u64 g] w fun e w' => e = .returned (.int .i64 0) ∧ Below w.heap.size w w')
    (HK : ∀ w, Calls Try.prog 16 #[c.val, .int .u64 g] w fun e w' => e = .returned (.int .i64 0) ∧ Below w.heap.size w w')
    (HRS : ∀ w, Calls Try.prog 19 #[c.val, .int .u64 g] w fun e w' => e = .returned (.agg #[.int .u64 sc.next, .int .i64 sc.cap, .int .u64 sc.got, .int .u64 sc.lost]) ∧ Below w.heap.size w w')
    (HW : ∀ w, Calls Try.prog 20 #[.agg #[.int .u64 sc.next, .int .i64 sc.cap, .int .u64 sc.got, .int .u64 sc.lost], .int .u64 g] w fun e w' => e = .returned (.int .u64 0) ∧ Below w.heap.size w w')
    (HSM : ∀ w, Calls Try.prog 21 #[.agg #[.int .u64 sc.next, .int .i64 sc.cap, .int .u64 sc.got, .int .u64 sc.lost], .agg #[.int .u64 sc.next, .int .i64 sc.cap, .int .u64 sc.got, .int .u64 sc.lost]] w fun e w' => e = .returned (.bool true) ∧ Below w.heap.size w w') :
    Calls Try.prog 6 #[c.val, .int .u64 g, .int .i64 room] w fun e w' => e = .returned (.bool true) ∧ Below w.heap.size w w' := by
  have JN := Lib.hid HN
  have JI := Lib.hid HI
  have JS := Lib.hid HS
  have JT := Lib.hid HT
  have JM := Lib.hid HM
  have JK := Lib.hid HK
  have JRS := Lib.hid HRS
  have JW := Lib.hid HW
  have JSM := Lib.hid HSM
  clear HN HI HS HT HM HK HRS HW HSM
  unfold Cur.val at *
  go_enter Try.func6, Try.ntmps6
  have B00 := Lib.hid ((Blk.new w 27 #[.int .u64 c.next, .int .i64 c.cap, .int .u64 c.got, .int .u64 c.lost]).alloc (.cells #[.int .u64 c.next, .int .i64 c.cap, .int .u64 c.got, .int .u64 c.lost] 46))
  have R00 := Lib.hid (show Blk ((w.alloc (.cells #[.int .u64 c.next, .int .i64 c.cap, .int .u64 c.got, .int .u64 c.lost] 27)).alloc (.cells #[.int .u64 c.next, .int .i64 c.cap, .int .u64 c.got, .int .u64 c.lost] 46)) (w.heap.size + 1) 46 #[.int .u64 c.next, .int .i64 c.cap, .int .u64 c.got, .int .u64 c.lost] by have := Blk.new (w.alloc (.cells #[.int .u64 c.next, .int .i64 c.cap, .int .u64 c.got, .int .u64 c.lost] 27)) 46 #[.int .u64 c.next, .int .i64 c.cap, .int .u64 c.got, .int .u64 c.lost]; rwa [World.size_alloc] at this)
  have L0 := Lib.hid (((Below.refl w.heap.size w).alloc (Nat.le_refl _) (.cells #[.int .u64 c.next, .int .i64 c.cap, .int .u64 c.got, .int .u64 c.lost] 27)).alloc (by simp) (.cells #[.int .u64 c.next, .int .i64 c.cap, .int .u64 c.got, .int .u64 c.lost] 46))
  go_wp2_with fail
  refine (JN.out _).mono ?_; rintro e wq1 ⟨rfl, hb1⟩
  have Bc1 := Lib.hid (B00.out.bl hb1)
  have Br1 := Lib.hid (R00.out.bl hb1)
  have L1 := Lib.hid (bl L0.out hb1)
  clear hb1 B00 R00 L0
  have cq0 := Bc1.out.cell 0
  have cq1 := Bc1.out.cell 1
  have cq2 := Bc1.out.cell 2
  have cq3 := Bc1.out.cell 3
  simp only [List.getElem?_toArray, List.getElem?_cons_succ, List.getElem?_cons_zero] at cq0 cq1 cq2 cq3
  have rq0 := Br1.out.cell 0
  have rq1 := Br1.out.cell 1
  have rq2 := Br1.out.cell 2
  have rq3 := Br1.out.cell 3
  simp only [List.getElem?_toArray, List.getElem?_cons_succ, List.getElem?_cons_zero] at rq0 rq1 rq2 rq3
  have fge := Lib.hid (show w.heap.size ≤ wq1.heap.size from L1.out.size)
  have cn1 : ¬ w.heap.size = wq1.heap.size := by have := Bc1.out.lt; omega
  have cfne := Lib.hid cn1
  have cn2 : w.heap.size < wq1.heap.size := Bc1.out.lt
  have rn1 : ¬ (w.heap.size + 1) = wq1.heap.size := by have := Br1.out.lt; omega
  have rfne := Lib.hid rn1
  have rn2 : (w.heap.size + 1) < wq1.heap.size := Br1.out.lt
  have Ac1 := Lib.hid (Bc1.out.alloc (.cells #[.int .u64 (g + 1), .int .i64 room, .int .u64 0, .int .u64 0] 27))
  have Ar1 := Lib.hid (Br1.out.alloc (.cells #[.int .u64 (g + 1), .int .i64 room, .int .u64 0, .int .u64 0] 27))
  have Af1 := Lib.hid (Blk.new wq1 27 #[.int .u64 (g + 1), .int .i64 room, .int .u64 0, .int .u64 0])
  have M1 := Lib.hid (L1.out.alloc L1.out.size (.cells #[.int .u64 (g + 1), .int .i64 room, .int .u64 0, .int .u64 0] 27))
  clear Bc1 Br1 L1
  go_wp2_with fail
  refine (JI.out _).mono ?_; rintro e wq2 ⟨rfl, hb2⟩
  have Bc2 := Lib.hid (Ac1.out.bl hb2)
  have Br2 := Lib.hid (Ar1.out.bl hb2)
  have Bf2 := Lib.hid (Af1.out.bl hb2)
  have L2 := Lib.hid (bl M1.out hb2)
  clear cq0 cq1 cq2 cq3 rq0 rq1 rq2 rq3 cn1 cn2 rn1 rn2
  clear hb2 Ac1 Ar1 Af1 M1
  generalize wq1.heap.size = gf at *
  have cq0 := Bc2.out.cell 0
  have cq1 := Bc2.out.cell 1
  have cq2 := Bc2.out.cell 2
  have cq3 := Bc2.out.cell 3
  simp only [List.getElem?_toArray, List.getElem?_cons_succ, List.getElem?_cons_zero] at cq0 cq1 cq2 cq3
  have rq0 := Br2.out.cell 0
  have rq1 := Br2.out.cell 1
  have rq2 := Br2.out.cell 2
  have rq3 := Br2.out.cell 3
  simp only [List.getElem?_toArray, List.getElem?_cons_succ, List.getElem?_cons_zero] at rq0 rq1 rq2 rq3
  have fq0 := Bf2.out.cell 0
  have fq1 := Bf2.out.cell 1
  have fq2 := Bf2.out.cell 2
  have fq3 := Bf2.out.cell 3
  simp only [List.getElem?_toArray, List.getElem?_cons_succ, List.getElem?_cons_zero] at fq0 fq1 fq2 fq3
  go_wp2_with fail
  refine (JS.out _).mono ?_; rintro e wq3 ⟨rfl, hb3⟩
  have Bc3 := Lib.hid (Bc2.out.bl hb3)
  have Br3 := Lib.hid (Br2.out.bl hb3)
  have Bf3 := Lib.hid (Bf2.out.bl hb3)
  have L3 := Lib.hid (bl L2.out hb3)
  clear cq0 cq1 cq2 cq3 rq0 rq1 rq2 rq3 fq0 fq1 fq2 fq3
  clear hb3 Bc2 Br2 Bf2 L2
  have cq0 := Bc3.out.cell 0
  have cq1 := Bc3.out.cell 1
  have cq2 := Bc3.out.cell 2
  have cq3 := Bc3.out.cell 3
  simp only [List.getElem?_toArray, List.getElem?_cons_succ, List.getElem?_cons_zero] at cq0 cq1 cq2 cq3
  have rq0 := Br3.out.cell 0
  have rq1 := Br3.out.cell 1
  have rq2 := Br3.out.cell 2
  have rq3 := Br3.out.cell 3
  simp only [List.getElem?_toArray, List.getElem?_cons_succ, List.getElem?_cons_zero] at rq0 rq1 rq2 rq3
  have fq0 := Bf3.out.cell 0
  have fq1 := Bf3.out.cell 1
  have fq2 := Bf3.out.cell 2
  have fq3 := Bf3.out.cell 3
  simp only [List.getElem?_toArray, List.getElem?_cons_succ, List.getElem?_cons_zero] at fq0 fq1 fq2 fq3
  have dge := Lib.hid (show w.heap.size ≤ wq3.heap.size from L3.out.size)
  have cn1 : ¬ w.heap.size = wq3.heap.size := by have := Bc3.out.lt; omega
  have cdne := Lib.hid cn1
  have cn2 : w.heap.size < wq3.heap.size := Bc3.out.lt
  have rn1 : ¬ (w.heap.size + 1) = wq3.heap.size := by have := Br3.out.lt; omega
  have rdne := Lib.hid rn1
  have rn2 : (w.heap.size + 1) < wq3.heap.size := Br3.out.lt
  have fn1 : ¬ gf = wq3.heap.size := by have := Bf3.out.lt; omega
  have fdne := Lib.hid fn1
  have fn2 : gf < wq3.heap.size := Bf3.out.lt
  have Ac3 := Lib.hid (Bc3.out.alloc (.cells #[.int .u64 sc.next, .int .i64 sc.cap, .int .u64 sc.got, .int .u64 sc.lost] 27))
  have Ar3 := Lib.hid (Br3.out.alloc (.cells #[.int .u64 sc.next, .int .i64 sc.cap, .int .u64 sc.got, .int .u64 sc.lost] 27))
  have Af3 := Lib.hid (Bf3.out.alloc (.cells #[.int .u64 sc.next, .int .i64 sc.cap, .int .u64 sc.got, .int .u64 sc.lost] 27))
  have Ad3 := Lib.hid (Blk.new wq3 27 #[.int .u64 sc.next, .int .i64 sc.cap, .int .u64 sc.got, .int .u64 sc.lost])
  have M3 := Lib.hid (L3.out.alloc L3.out.size (.cells #[.int .u64 sc.next, .int .i64 sc.cap, .int .u64 sc.got, .int .u64 sc.lost] 27))
  clear Bc3 Br3 Bf3 L3
  go_wp2_with fail
  refine (JT.out _).mono ?_; rintro e wq4 ⟨rfl, hb4⟩
  have Bc4 := Lib.hid (Ac3.out.bl hb4)
  have Br4 := Lib.hid (Ar3.out.bl hb4)
  have Bd4 := Lib.hid (Ad3.out.bl hb4)
  have L4 := Lib.hid (bl M3.out hb4)
  clear cq0 cq1 cq2 cq3 rq0 rq1 rq2 rq3 fq0 fq1 fq2 fq3 cn1 cn2 rn1 rn2 fn1 fn2
  clear hb4 Ac3 Ar3 Ad3 M3
  generalize wq3.heap.size = gd at *
  have cq0 := Bc4.out.cell 0
  have cq1 := Bc4.out.cell 1
  have cq2 := Bc4.out.cell 2
  have cq3 := Bc4.out.cell 3
  simp only [List.getElem?_toArray, List.getElem?_cons_succ, List.getElem?_cons_zero] at cq0 cq1 cq2 cq3
  have rq0 := Br4.out.cell 0
  have rq1 := Br4.out.cell 1
  have rq2 := Br4.out.cell 2
  have rq3 := Br4.out.cell 3
  simp only [List.getElem?_toArray, List.getElem?_cons_succ, List.getElem?_cons_zero] at rq0 rq1 rq2 rq3
  have dq0 := Bd4.out.cell 0
  have dq1 := Bd4.out.cell 1
  have dq2 := Bd4.out.cell 2
  have dq3 := Bd4.out.cell 3
  simp only [List.getElem?_toArray, List.getElem?_cons_succ, List.getElem?_cons_zero] at dq0 dq1 dq2 dq3
  have tge := Lib.hid (show w.heap.size ≤ wq4.heap.size from L4.out.size)
  have cn1 : ¬ w.heap.size = wq4.heap.size := by have := Bc4.out.lt; omega
  have ctne := Lib.hid cn1
  have cn2 : w.heap.size < wq4.heap.size := Bc4.out.lt
  have rn1 : ¬ (w.heap.size + 1) = wq4.heap.size := by have := Br4.out.lt; omega
  have rtne := Lib.hid rn1
  have rn2 : (w.heap.size + 1) < wq4.heap.size := Br4.out.lt
  have dn1 : ¬ gd = wq4.heap.size := by have := Bd4.out.lt; omega
  have dtne := Lib.hid dn1
  have dn2 : gd < wq4.heap.size := Bd4.out.lt
  have Ac4 := Lib.hid (Bc4.out.alloc (.cells #[.int .u64 0, .int .i64 0, .int .u64 0, .int .u64 0] 27))
  have Ar4 := Lib.hid (Br4.out.alloc (.cells #[.int .u64 0, .int .i64 0, .int .u64 0, .int .u64 0] 27))
  have Ad4 := Lib.hid (Bd4.out.alloc (.cells #[.int .u64 0, .int .i64 0, .int .u64 0, .int .u64 0] 27))
  have At4 := Lib.hid (Blk.new wq4 27 #[.int .u64 0, .int .i64 0, .int .u64 0, .int .u64 0])
  have M4 := Lib.hid (L4.out.alloc L4.out.size (.cells #[.int .u64 0, .int .i64 0, .int .u64 0, .int .u64 0] 27))
  clear Bc4 Br4 Bd4 L4
  go_wp2_with fail
  refine (JM.out _).mono ?_; rintro e wq5 ⟨rfl, hb5⟩
  have Bc5 := Lib.hid (Ac4.out.bl hb5)
  have Br5 := Lib.hid (Ar4.out.bl hb5)
  have Bd5 := Lib.hid (Ad4.out.bl hb5)
  have Bt5 := Lib.hid (At4.out.bl hb5)
  have L5 := Lib.hid (bl M4.out hb5)
  clear cq0 cq1 cq2 cq3 rq0 rq1 rq2 rq3 dq0 dq1 dq2 dq3 cn1 cn2 rn1 rn2 dn1 dn2
  clear hb5 Ac4 Ar4 Ad4 At4 M4
  generalize wq4.heap.size = gt at *
  have cq0 := Bc5.out.cell 0
  have cq1 := Bc5.out.cell 1
  have cq2 := Bc5.out.cell 2
  have cq3 := Bc5.out.cell 3
  simp only [List.getElem?_toArray, List.getElem?_cons_succ, List.getElem?_cons_zero] at cq0 cq1 cq2 cq3
  have rq0 := Br5.out.cell 0
  have rq1 := Br5.out.cell 1
  have rq2 := Br5.out.cell 2
  have rq3 := Br5.out.cell 3
  simp only [List.getElem?_toArray, List.getElem?_cons_succ, List.getElem?_cons_zero] at rq0 rq1 rq2 rq3
  have dq0 := Bd5.out.cell 0
  have dq1 := Bd5.out.cell 1
  have dq2 := Bd5.out.cell 2
  have dq3 := Bd5.out.cell 3
  simp only [List.getElem?_toArray, List.getElem?_cons_succ, List.getElem?_cons_zero] at dq0 dq1 dq2 dq3
  have tq0 := Bt5.out.cell 0
  have tq1 := Bt5.out.cell 1
  have tq2 := Bt5.out.cell 2
  have tq3 := Bt5.out.cell 3
  simp only [List.getElem?_toArray, List.getElem?_cons_succ, List.getElem?_cons_zero] at tq0 tq1 tq2 tq3
  go_wp2_with fail
  refine (JRS.out _).mono ?_; rintro e wq6 ⟨rfl, hb6⟩
  have Bc6 := Lib.hid (Bc5.out.bl hb6)
  have Br6 := Lib.hid (Br5.out.bl hb6)
  have Bd6 := Lib.hid (Bd5.out.bl hb6)
  have Bt6 := Lib.hid (Bt5.out.bl hb6)
  have L6 := Lib.hid (bl L5.out hb6)
  clear cq0 cq1 cq2 cq3 rq0 rq1 rq2 rq3 dq0 dq1 dq2 dq3 tq0 tq1 tq2 tq3
  clear hb6 Bc5 Br5 Bd5 Bt5 L5
  have cq0 := Bc6.out.cell 0
  have cq1 := Bc6.out.cell 1
  have cq2 := Bc6.out.cell 2
  have cq3 := Bc6.out.cell 3
  simp only [List.getElem?_toArray, List.getElem?_cons_succ, List.getElem?_cons_zero] at cq0 cq1 cq2 cq3
  have rq0 := Br6.out.cell 0
  have rq1 := Br6.out.cell 1
  have rq2 := Br6.out.cell 2
  have rq3 := Br6.out.cell 3
  simp only [List.getElem?_toArray, List.getElem?_cons_succ, List.getElem?_cons_zero] at rq0 rq1 rq2 rq3
  have dq0 := Bd6.out.cell 0
  have dq1 := Bd6.out.cell 1
  have dq2 := Bd6.out.cell 2
  have dq3 := Bd6.out.cell 3
  simp only [List.getElem?_toArray, List.getElem?_cons_succ, List.getElem?_cons_zero] at dq0 dq1 dq2 dq3
  have tq0 := Bt6.out.cell 0
  have tq1 := Bt6.out.cell 1
  have tq2 := Bt6.out.cell 2
  have tq3 := Bt6.out.cell 3
  simp only [List.getElem?_toArray, List.getElem?_cons_succ, List.getElem?_cons_zero] at tq0 tq1 tq2 tq3
  have sge := Lib.hid (show w.heap.size ≤ wq6.heap.size from L6.out.size)
  have cn1 : ¬ w.heap.size = wq6.heap.size := by have := Bc6.out.lt; omega
  have csne := Lib.hid cn1
  have cn2 : w.heap.size < wq6.heap.size := Bc6.out.lt
  have rn1 : ¬ (w.heap.size + 1) = wq6.heap.size := by have := Br6.out.lt; omega
  have rsne := Lib.hid rn1
  have rn2 : (w.heap.size + 1) < wq6.heap.size := Br6.out.lt
  have dn1 : ¬ gd = wq6.heap.size := by have := Bd6.out.lt; omega
  have dsne := Lib.hid dn1
  have dn2 : gd < wq6.heap.size := Bd6.out.lt
  have tn1 : ¬ gt = wq6.heap.size := by have := Bt6.out.lt; omega
  have tsne := Lib.hid tn1
  have tn2 : gt < wq6.heap.size := Bt6.out.lt
  have Ac6 := Lib.hid (Bc6.out.alloc (.cells #[.int .u64 sc.next, .int .i64 sc.cap, .int .u64 sc.got, .int .u64 sc.lost] 46))
  have Ar6 := Lib.hid (Br6.out.alloc (.cells #[.int .u64 sc.next, .int .i64 sc.cap, .int .u64 sc.got, .int .u64 sc.lost] 46))
  have Ad6 := Lib.hid (Bd6.out.alloc (.cells #[.int .u64 sc.next, .int .i64 sc.cap, .int .u64 sc.got, .int .u64 sc.lost] 46))
  have At6 := Lib.hid (Bt6.out.alloc (.cells #[.int .u64 sc.next, .int .i64 sc.cap, .int .u64 sc.got, .int .u64 sc.lost] 46))
  have As6 := Lib.hid (Blk.new wq6 46 #[.int .u64 sc.next, .int .i64 sc.cap, .int .u64 sc.got, .int .u64 sc.lost])
  have M6 := Lib.hid (L6.out.alloc L6.out.size (.cells #[.int .u64 sc.next, .int .i64 sc.cap, .int .u64 sc.got, .int .u64 sc.lost] 46))
  clear Bc6 Br6 Bd6 Bt6 L6
  go_wp2_with fail
  refine (JW.out _).mono ?_; rintro e wq7 ⟨rfl, hb7⟩
  have Bc7 := Lib.hid (Ac6.out.bl hb7)
  have Br7 := Lib.hid (Ar6.out.bl hb7)
  have Bd7 := Lib.hid (Ad6.out.bl hb7)
  have Bt7 := Lib.hid (At6.out.bl hb7)
  have Bs7 := Lib.hid (As6.out.bl hb7)
  have L7 := Lib.hid (bl M6.out hb7)
  clear cq0 cq1 cq2 cq3 rq0 rq1 rq2 rq3 dq0 dq1 dq2 dq3 tq0 tq1 tq2 tq3 cn1 cn2 rn1 rn2 dn1 dn2 tn1 tn2
  clear hb7 Ac6 Ar6 Ad6 At6 As6 M6
  generalize wq6.heap.size = gs at *
  have cq0 := Bc7.out.cell 0
  have cq1 := Bc7.out.cell 1
  have cq2 := Bc7.out.cell 2
  have cq3 := Bc7.out.cell 3
  simp only [List.getElem?_toArray, List.getElem?_cons_succ, List.getElem?_cons_zero] at cq0 cq1 cq2 cq3
  have rq0 := Br7.out.cell 0
  have rq1 := Br7.out.cell 1
  have rq2 := Br7.out.cell 2
  have rq3 := Br7.out.cell 3
  simp only [List.getElem?_toArray, List.getElem?_cons_succ, List.getElem?_cons_zero] at rq0 rq1 rq2 rq3
  have dq0 := Bd7.out.cell 0
  have dq1 := Bd7.out.cell 1
  have dq2 := Bd7.out.cell 2
  have dq3 := Bd7.out.cell 3
  simp only [List.getElem?_toArray, List.getElem?_cons_succ, List.getElem?_cons_zero] at dq0 dq1 dq2 dq3
  have tq0 := Bt7.out.cell 0
  have tq1 := Bt7.out.cell 1
  have tq2 := Bt7.out.cell 2
  have tq3 := Bt7.out.cell 3
  simp only [List.getElem?_toArray, List.getElem?_cons_succ, List.getElem?_cons_zero] at tq0 tq1 tq2 tq3
  have sq0 := Bs7.out.cell 0
  have sq1 := Bs7.out.cell 1
  have sq2 := Bs7.out.cell 2
  have sq3 := Bs7.out.cell 3
  simp only [List.getElem?_toArray, List.getElem?_cons_succ, List.getElem?_cons_zero] at sq0 sq1 sq2 sq3
  go_wp2_with fail
  refine (JSM.out _).mono ?_; rintro e wq8 ⟨rfl, hb8⟩
  have Bc8 := Lib.hid (Bc7.out.bl hb8)
  have Br8 := Lib.hid (Br7.out.bl hb8)
  have Bd8 := Lib.hid (Bd7.out.bl hb8)
  have Bt8 := Lib.hid (Bt7.out.bl hb8)
  have Bs8 := Lib.hid (Bs7.out.bl hb8)
  have L8 := Lib.hid (bl L7.out hb8)
  clear cq0 cq1 cq2 cq3 rq0 rq1 rq2 rq3 dq0 dq1 dq2 dq3 tq0 tq1 tq2 tq3 sq0 sq1 sq2 sq3
  clear hb8 Bc7 Br7 Bd7 Bt7 Bs7 L7
  have cq0 := Bc8.out.cell 0
  have cq1 := Bc8.out.cell 1
  have cq2 := Bc8.out.cell 2
  have cq3 := Bc8.out.cell 3
  simp only [List.getElem?_toArray, List.getElem?_cons_succ, List.getElem?_cons_zero] at cq0 cq1 cq2 cq3
  have rq0 := Br8.out.cell 0
  have rq1 := Br8.out.cell 1
  have rq2 := Br8.out.cell 2
  have rq3 := Br8.out.cell 3
  simp only [List.getElem?_toArray, List.getElem?_cons_succ, List.getElem?_cons_zero] at rq0 rq1 rq2 rq3
  have dq0 := Bd8.out.cell 0
  have dq1 := Bd8.out.cell 1
  have dq2 := Bd8.out.cell 2
  have dq3 := Bd8.out.cell 3
  simp only [List.getElem?_toArray, List.getElem?_cons_succ, List.getElem?_cons_zero] at dq0 dq1 dq2 dq3
  have tq0 := Bt8.out.cell 0
  have tq1 := Bt8.out.cell 1
  have tq2 := Bt8.out.cell 2
  have tq3 := Bt8.out.cell 3
  simp only [List.getElem?_toArray, List.getElem?_cons_succ, List.getElem?_cons_zero] at tq0 tq1 tq2 tq3
  have sq0 := Bs8.out.cell 0
  have sq1 := Bs8.out.cell 1
  have sq2 := Bs8.out.cell 2
  have sq3 := Bs8.out.cell 3
  simp only [List.getElem?_toArray, List.getElem?_cons_succ, List.getElem?_cons_zero] at sq0 sq1 sq2 sq3
  go_wp2_with fail
  refine (JK.out _).mono ?_; rintro e wq9 ⟨rfl, hb9⟩
  have Bc9 := Lib.hid (Bc8.out.bl hb9)
  have Br9 := Lib.hid (Br8.out.bl hb9)
  have Bd9 := Lib.hid (Bd8.out.bl hb9)
  have Bt9 := Lib.hid (Bt8.out.bl hb9)
  have Bs9 := Lib.hid (Bs8.out.bl hb9)
  have L9 := Lib.hid (bl L8.out hb9)
  clear cq0 cq1 cq2 cq3 rq0 rq1 rq2 rq3 dq0 dq1 dq2 dq3 tq0 tq1 tq2 tq3 sq0 sq1 sq2 sq3
  clear hb9 Bc8 Br8 Bd8 Bt8 Bs8 L8
  have cq0 := Bc9.out.cell 0
  have cq1 := Bc9.out.cell 1
  have cq2 := Bc9.out.cell 2
  have cq3 := Bc9.out.cell 3
  simp only [List.getElem?_toArray, List.getElem?_cons_succ, List.getElem?_cons_zero] at cq0 cq1 cq2 cq3
  have rq0 := Br9.out.cell 0
  have rq1 := Br9.out.cell 1
  have rq2 := Br9.out.cell 2
  have rq3 := Br9.out.cell 3
  simp only [List.getElem?_toArray, List.getElem?_cons_succ, List.getElem?_cons_zero] at rq0 rq1 rq2 rq3
  have dq0 := Bd9.out.cell 0
  have dq1 := Bd9.out.cell 1
  have dq2 := Bd9.out.cell 2
  have dq3 := Bd9.out.cell 3
  simp only [List.getElem?_toArray, List.getElem?_cons_succ, List.getElem?_cons_zero] at dq0 dq1 dq2 dq3
  have tq0 := Bt9.out.cell 0
  have tq1 := Bt9.out.cell 1
  have tq2 := Bt9.out.cell 2
  have tq3 := Bt9.out.cell 3
  simp only [List.getElem?_toArray, List.getElem?_cons_succ, List.getElem?_cons_zero] at tq0 tq1 tq2 tq3
  have sq0 := Bs9.out.cell 0
  have sq1 := Bs9.out.cell 1
  have sq2 := Bs9.out.cell 2
  have sq3 := Bs9.out.cell 3
  simp only [List.getElem?_toArray, List.getElem?_cons_succ, List.getElem?_cons_zero] at sq0 sq1 sq2 sq3
  go_wp2_with fail
  refine (awake_any _).mono ?_; rintro e wq10 ⟨rfl, hb10⟩
  have Bc10 := Lib.hid (Bc9.out.bl hb10)
  have Br10 := Lib.hid (Br9.out.bl hb10)
  have Bd10 := Lib.hid (Bd9.out.bl hb10)
  have Bt10 := Lib.hid (Bt9.out.bl hb10)
  have Bs10 := Lib.hid (Bs9.out.bl hb10)
  have L10 := Lib.hid (bl L9.out hb10)
  clear cq0 cq1 cq2 cq3 rq0 rq1 rq2 rq3 dq0 dq1 dq2 dq3 tq0 tq1 tq2 tq3 sq0 sq1 sq2 sq3
  clear hb10 Bc9 Br9 Bd9 Bt9 Bs9 L9
  have cq0 := Bc10.out.cell 0
  have cq1 := Bc10.out.cell 1
  have cq2 := Bc10.out.cell 2
  have cq3 := Bc10.out.cell 3
  simp only [List.getElem?_toArray, List.getElem?_cons_succ, List.getElem?_cons_zero] at cq0 cq1 cq2 cq3
  have rq0 := Br10.out.cell 0
  have rq1 := Br10.out.cell 1
  have rq2 := Br10.out.cell 2
  have rq3 := Br10.out.cell 3
  simp only [List.getElem?_toArray, List.getElem?_cons_succ, List.getElem?_cons_zero] at rq0 rq1 rq2 rq3
  have dq0 := Bd10.out.cell 0
  have dq1 := Bd10.out.cell 1
  have dq2 := Bd10.out.cell 2
  have dq3 := Bd10.out.cell 3
  simp only [List.getElem?_toArray, List.getElem?_cons_succ, List.getElem?_cons_zero] at dq0 dq1 dq2 dq3
  have tq0 := Bt10.out.cell 0
  have tq1 := Bt10.out.cell 1
  have tq2 := Bt10.out.cell 2
  have tq3 := Bt10.out.cell 3
  simp only [List.getElem?_toArray, List.getElem?_cons_succ, List.getElem?_cons_zero] at tq0 tq1 tq2 tq3
  have sq0 := Bs10.out.cell 0
  have sq1 := Bs10.out.cell 1
  have sq2 := Bs10.out.cell 2
  have sq3 := Bs10.out.cell 3
  simp only [List.getElem?_toArray, List.getElem?_cons_succ, List.getElem?_cons_zero] at sq0 sq1 sq2 sq3
  go_wp2_with fail
  go_ret
  exact ⟨rfl, L10.out⟩

end Go.Proofs.Ythfkgbgbhjnpdaa.Queue
