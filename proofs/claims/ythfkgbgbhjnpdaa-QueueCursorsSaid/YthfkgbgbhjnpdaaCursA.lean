/-
  QueueCursors: the walk where the cursor is refused. Conditions stand at each. By an AI agent.
-/
import Derived.Test.YthfkgbgbhjnpdaaRefQ
namespace Go.Proofs.Ythfkgbgbhjnpdaa.Queue
set_option linter.unusedVariables false
set_option linter.unusedSimpArgs false
open Go Go.RowKit Go.Proofs.Ythfkgbgbhjnpdaa.Base

set_option maxRecDepth 100000 in
set_option maxHeartbeats 4000000 in
theorem curs_A1_bad (c : Cur) (g room : Int) (sc : Cur) (me n : Int) (w : World) (hg0 : 0 ≤ g) (hg1 : g ≤ 18446744073709551615)
    (k1 : (me != 0) = true)
    (HN : ∀ w, Calls Try.prog 11 #[.int .u64 g, .int .i64 room] w fun e w' => e = .returned (.tuple #[.agg #[.int .u64 0, .int .i64 0, .int .u64 0, .int .u64 0], .int .i64 10]) ∧ Below w.heap.size w w')
    (HI : ∀ w, Calls Try.prog 17 #[.int .u64 g] w fun e w' => e = .returned (.bool false) ∧ Below w.heap.size w w')
    (HS : ∀ w, Calls Try.prog 15 #[c.val, .int .u64 g] w fun e w' => e = .returned (.tuple #[.agg #[.int .u64 0, .int .i64 0, .int .u64 0, .int .u64 0], .int .i64 me]) ∧ Below w.heap.size w w')
    (HT : ∀ w, Calls Try.prog 13 #[c.val, .int .u64 g] w fun e w' => e = .returned (.tuple #[.int .u64 0, .agg #[.int .u64 0, .int .i64 0, .int .u64 0, .int .u64 0], .int .i64 me]) ∧ Below w.heap.size w w')
    (HM : ∀ w, Calls Try.prog 18 #[c.val, .int .u64 g] w fun e w' => e = .returned (.int .i64 me) ∧ Below w.heap.size w w')
    (HK : ∀ w, Calls Try.prog 16 #[c.val, .int .u64 g] w fun e w' => e = .returned (.int .i64 0) ∧ Below w.heap.size w w') :
    Calls Try.prog 6 #[c.val, .int .u64 g, .int .i64 room] w fun e w' => e = .returned (.bool true) ∧ Below w.heap.size w w' := by
  have JN := Lib.hid HN
  have JI := Lib.hid HI
  have JS := Lib.hid HS
  have JT := Lib.hid HT
  have JM := Lib.hid HM
  have JK := Lib.hid HK
  clear HN HI HS HT HM HK
  have k2 : (me == me) = true := by simp
  unfold Cur.val at *
  go_enter Try.func6, Try.ntmps6
  have B00 := Lib.hid ((Blk.new w 27 #[.int .u64 c.next, .int .i64 c.cap, .int .u64 c.got, .int .u64 c.lost]).alloc (.cells #[.int .u64 c.next, .int .i64 c.cap, .int .u64 c.got, .int .u64 c.lost] 46))
  have R00 := Lib.hid (show Blk ((w.alloc (.cells #[.int .u64 c.next, .int .i64 c.cap, .int .u64 c.got, .int .u64 c.lost] 27)).alloc (.cells #[.int .u64 c.next, .int .i64 c.cap, .int .u64 c.got, .int .u64 c.lost] 46)) (w.heap.size + 1) 46 #[.int .u64 c.next, .int .i64 c.cap, .int .u64 c.got, .int .u64 c.lost] by have := Blk.new (w.alloc (.cells #[.int .u64 c.next, .int .i64 c.cap, .int .u64 c.got, .int .u64 c.lost] 27)) 46 #[.int .u64 c.next, .int .i64 c.cap, .int .u64 c.got, .int .u64 c.lost]; rwa [World.size_alloc] at this)
  have L0 := Lib.hid (((Below.refl w.heap.size w).alloc (Nat.le_refl _) (.cells #[.int .u64 c.next, .int .i64 c.cap, .int .u64 c.got, .int .u64 c.lost] 27)).alloc (by simp) (.cells #[.int .u64 c.next, .int .i64 c.cap, .int .u64 c.got, .int .u64 c.lost] 46))
  go_wp2_with fail
  refine (JN.out _).mono ?_; rintro e wq1 ⟨rfl, hb1⟩
  have Bc1 := Lib.hid (B00.out.bl hb1)
  have Br1 := Lib.hid (R00.out.bl hb1)
  have L1 := Lib.hid (bl L0.out hb1)
  clear hb1 B00 R00 L0
  have cq0 := Bc1.out.cell 0
  have cq1 := Bc1.out.cell 1
  have cq2 := Bc1.out.cell 2
  have cq3 := Bc1.out.cell 3
  simp only [List.getElem?_toArray, List.getElem?_cons_succ, List.getElem?_cons_zero] at cq0 cq1 cq2 cq3
  have rq0 := Br1.out.cell 0
  have rq1 := Br1.out.cell 1
  have rq2 := Br1.out.cell 2
  have rq3 := Br1.out.cell 3
  simp only [List.getElem?_toArray, List.getElem?_cons_succ, List.getElem?_cons_zero] at rq0 rq1 rq2 rq3
  have fge := Lib.hid (show w.heap.size ≤ wq1.heap.size from L1.out.size)
  have cn1 : ¬ w.heap.size = wq1.heap.size := by have := Bc1.out.lt; omega
  have cfne := Lib.hid cn1
  have cn2 : w.heap.size < wq1.heap.size := Bc1.out.lt
  have rn1 : ¬ (w.heap.size + 1) = wq1.heap.size := by have := Br1.out.lt; omega
  have rfne := Lib.hid rn1
  have rn2 : (w.heap.size + 1) < wq1.heap.size := Br1.out.lt
  have Ac1 := Lib.hid (Bc1.out.alloc (.cells #[.int .u64 0, .int .i64 0, .int .u64 0, .int .u64 0] 27))
  have Ar1 := Lib.hid (Br1.out.alloc (.cells #[.int .u64 0, .int .i64 0, .int .u64 0, .int .u64 0] 27))
  have Af1 := Lib.hid (Blk.new wq1 27 #[.int .u64 0, .int .i64 0, .int .u64 0, .int .u64 0])
  have M1 := Lib.hid (L1.out.alloc L1.out.size (.cells #[.int .u64 0, .int .i64 0, .int .u64 0, .int .u64 0] 27))
  clear Bc1 Br1 L1
  go_wp2_with fail
  refine (JI.out _).mono ?_; rintro e wq2 ⟨rfl, hb2⟩
  have Bc2 := Lib.hid (Ac1.out.bl hb2)
  have Br2 := Lib.hid (Ar1.out.bl hb2)
  have Bf2 := Lib.hid (Af1.out.bl hb2)
  have L2 := Lib.hid (bl M1.out hb2)
  clear cq0 cq1 cq2 cq3 rq0 rq1 rq2 rq3 cn1 cn2 rn1 rn2
  clear hb2 Ac1 Ar1 Af1 M1
  generalize wq1.heap.size = gf at *
  have cq0 := Bc2.out.cell 0
  have cq1 := Bc2.out.cell 1
  have cq2 := Bc2.out.cell 2
  have cq3 := Bc2.out.cell 3
  simp only [List.getElem?_toArray, List.getElem?_cons_succ, List.getElem?_cons_zero] at cq0 cq1 cq2 cq3
  have rq0 := Br2.out.cell 0
  have rq1 := Br2.out.cell 1
  have rq2 := Br2.out.cell 2
  have rq3 := Br2.out.cell 3
  simp only [List.getElem?_toArray, List.getElem?_cons_succ, List.getElem?_cons_zero] at rq0 rq1 rq2 rq3
  have fq0 := Bf2.out.cell 0
  have fq1 := Bf2.out.cell 1
  have fq2 := Bf2.out.cell 2
  have fq3 := Bf2.out.cell 3
  simp only [List.getElem?_toArray, List.getElem?_cons_succ, List.getElem?_cons_zero] at fq0 fq1 fq2 fq3
  go_wp2_with fail
  refine (JS.out _).mono ?_; rintro e wq3 ⟨rfl, hb3⟩
  have Bc3 := Lib.hid (Bc2.out.bl hb3)
  have Br3 := Lib.hid (Br2.out.bl hb3)
  have Bf3 := Lib.hid (Bf2.out.bl hb3)
  have L3 := Lib.hid (bl L2.out hb3)
  clear cq0 cq1 cq2 cq3 rq0 rq1 rq2 rq3 fq0 fq1 fq2 fq3
  clear hb3 Bc2 Br2 Bf2 L2
  have cq0 := Bc3.out.cell 0
  have cq1 := Bc3.out.cell 1
  have cq2 := Bc3.out.cell 2
  have cq3 := Bc3.out.cell 3
  simp only [List.getElem?_toArray, List.getElem?_cons_succ, List.getElem?_cons_zero] at cq0 cq1 cq2 cq3
  have rq0 := Br3.out.cell 0
  have rq1 := Br3.out.cell 1
  have rq2 := Br3.out.cell 2
  have rq3 := Br3.out.cell 3
  simp only [List.getElem?_toArray, List.getElem?_cons_succ, List.getElem?_cons_zero] at rq0 rq1 rq2 rq3
  have fq0 := Bf3.out.cell 0
  have fq1 := Bf3.out.cell 1
  have fq2 := Bf3.out.cell 2
  have fq3 := Bf3.out.cell 3
  simp only [List.getElem?_toArray, List.getElem?_cons_succ, List.getElem?_cons_zero] at fq0 fq1 fq2 fq3
  have dge := Lib.hid (show w.heap.size ≤ wq3.heap.size from L3.out.size)
  have cn1 : ¬ w.heap.size = wq3.heap.size := by have := Bc3.out.lt; omega
  have cdne := Lib.hid cn1
  have cn2 : w.heap.size < wq3.heap.size := Bc3.out.lt
  have rn1 : ¬ (w.heap.size + 1) = wq3.heap.size := by have := Br3.out.lt; omega
  have rdne := Lib.hid rn1
  have rn2 : (w.heap.size + 1) < wq3.heap.size := Br3.out.lt
  have fn1 : ¬ gf = wq3.heap.size := by have := Bf3.out.lt; omega
  have fdne := Lib.hid fn1
  have fn2 : gf < wq3.heap.size := Bf3.out.lt
  have Ac3 := Lib.hid (Bc3.out.alloc (.cells #[.int .u64 0, .int .i64 0, .int .u64 0, .int .u64 0] 27))
  have Ar3 := Lib.hid (Br3.out.alloc (.cells #[.int .u64 0, .int .i64 0, .int .u64 0, .int .u64 0] 27))
  have Af3 := Lib.hid (Bf3.out.alloc (.cells #[.int .u64 0, .int .i64 0, .int .u64 0, .int .u64 0] 27))
  have Ad3 := Lib.hid (Blk.new wq3 27 #[.int .u64 0, .int .i64 0, .int .u64 0, .int .u64 0])
  have M3 := Lib.hid (L3.out.alloc L3.out.size (.cells #[.int .u64 0, .int .i64 0, .int .u64 0, .int .u64 0] 27))
  clear Bc3 Br3 Bf3 L3
  go_wp2_with fail
  refine (JT.out _).mono ?_; rintro e wq4 ⟨rfl, hb4⟩
  have Bc4 := Lib.hid (Ac3.out.bl hb4)
  have Br4 := Lib.hid (Ar3.out.bl hb4)
  have Bd4 := Lib.hid (Ad3.out.bl hb4)
  have L4 := Lib.hid (bl M3.out hb4)
  clear cq0 cq1 cq2 cq3 rq0 rq1 rq2 rq3 fq0 fq1 fq2 fq3 cn1 cn2 rn1 rn2 fn1 fn2
  clear hb4 Ac3 Ar3 Ad3 M3
  generalize wq3.heap.size = gd at *
  have cq0 := Bc4.out.cell 0
  have cq1 := Bc4.out.cell 1
  have cq2 := Bc4.out.cell 2
  have cq3 := Bc4.out.cell 3
  simp only [List.getElem?_toArray, List.getElem?_cons_succ, List.getElem?_cons_zero] at cq0 cq1 cq2 cq3
  have rq0 := Br4.out.cell 0
  have rq1 := Br4.out.cell 1
  have rq2 := Br4.out.cell 2
  have rq3 := Br4.out.cell 3
  simp only [List.getElem?_toArray, List.getElem?_cons_succ, List.getElem?_cons_zero] at rq0 rq1 rq2 rq3
  have dq0 := Bd4.out.cell 0
  have dq1 := Bd4.out.cell 1
  have dq2 := Bd4.out.cell 2
  have dq3 := Bd4.out.cell 3
  simp only [List.getElem?_toArray, List.getElem?_cons_succ, List.getElem?_cons_zero] at dq0 dq1 dq2 dq3
  have tge := Lib.hid (show w.heap.size ≤ wq4.heap.size from L4.out.size)
  have cn1 : ¬ w.heap.size = wq4.heap.size := by have := Bc4.out.lt; omega
  have ctne := Lib.hid cn1
  have cn2 : w.heap.size < wq4.heap.size := Bc4.out.lt
  have rn1 : ¬ (w.heap.size + 1) = wq4.heap.size := by have := Br4.out.lt; omega
  have rtne := Lib.hid rn1
  have rn2 : (w.heap.size + 1) < wq4.heap.size := Br4.out.lt
  have dn1 : ¬ gd = wq4.heap.size := by have := Bd4.out.lt; omega
  have dtne := Lib.hid dn1
  have dn2 : gd < wq4.heap.size := Bd4.out.lt
  have Ac4 := Lib.hid (Bc4.out.alloc (.cells #[.int .u64 0, .int .i64 0, .int .u64 0, .int .u64 0] 27))
  have Ar4 := Lib.hid (Br4.out.alloc (.cells #[.int .u64 0, .int .i64 0, .int .u64 0, .int .u64 0] 27))
  have Ad4 := Lib.hid (Bd4.out.alloc (.cells #[.int .u64 0, .int .i64 0, .int .u64 0, .int .u64 0] 27))
  have At4 := Lib.hid (Blk.new wq4 27 #[.int .u64 0, .int .i64 0, .int .u64 0, .int .u64 0])
  have M4 := Lib.hid (L4.out.alloc L4.out.size (.cells #[.int .u64 0, .int .i64 0, .int .u64 0, .int .u64 0] 27))
  clear Bc4 Br4 Bd4 L4
  go_wp2_with fail
  refine (JM.out _).mono ?_; rintro e wq5 ⟨rfl, hb5⟩
  have Bc5 := Lib.hid (Ac4.out.bl hb5)
  have Br5 := Lib.hid (Ar4.out.bl hb5)
  have Bd5 := Lib.hid (Ad4.out.bl hb5)
  have Bt5 := Lib.hid (At4.out.bl hb5)
  have L5 := Lib.hid (bl M4.out hb5)
  clear cq0 cq1 cq2 cq3 rq0 rq1 rq2 rq3 dq0 dq1 dq2 dq3 cn1 cn2 rn1 rn2 dn1 dn2
  clear hb5 Ac4 Ar4 Ad4 At4 M4
  generalize wq4.heap.size = gt at *
  have cq0 := Bc5.out.cell 0
  have cq1 := Bc5.out.cell 1
  have cq2 := Bc5.out.cell 2
  have cq3 := Bc5.out.cell 3
  simp only [List.getElem?_toArray, List.getElem?_cons_succ, List.getElem?_cons_zero] at cq0 cq1 cq2 cq3
  have rq0 := Br5.out.cell 0
  have rq1 := Br5.out.cell 1
  have rq2 := Br5.out.cell 2
  have rq3 := Br5.out.cell 3
  simp only [List.getElem?_toArray, List.getElem?_cons_succ, List.getElem?_cons_zero] at rq0 rq1 rq2 rq3
  have dq0 := Bd5.out.cell 0
  have dq1 := Bd5.out.cell 1
  have dq2 := Bd5.out.cell 2
  have dq3 := Bd5.out.cell 3
  simp only [List.getElem?_toArray, List.getElem?_cons_succ, List.getElem?_cons_zero] at dq0 dq1 dq2 dq3
  have tq0 := Bt5.out.cell 0
  have tq1 := Bt5.out.cell 1
  have tq2 := Bt5.out.cell 2
  have tq3 := Bt5.out.cell 3
  simp only [List.getElem?_toArray, List.getElem?_cons_succ, List.getElem?_cons_zero] at tq0 tq1 tq2 tq3
  go_wp2_with fail
  refine (JK.out _).mono ?_; rintro e wq6 ⟨rfl, hb6⟩
  have Bc6 := Lib.hid (Bc5.out.bl hb6)
  have Br6 := Lib.hid (Br5.out.bl hb6)
  have Bd6 := Lib.hid (Bd5.out.bl hb6)
  have Bt6 := Lib.hid (Bt5.out.bl hb6)
  have L6 := Lib.hid (bl L5.out hb6)
  clear cq0 cq1 cq2 cq3 rq0 rq1 rq2 rq3 dq0 dq1 dq2 dq3 tq0 tq1 tq2 tq3
  clear hb6 Bc5 Br5 Bd5 Bt5 L5
  have cq0 := Bc6.out.cell 0
  have cq1 := Bc6.out.cell 1
  have cq2 := Bc6.out.cell 2
  have cq3 := Bc6.out.cell 3
  simp only [List.getElem?_toArray, List.getElem?_cons_succ, List.getElem?_cons_zero] at cq0 cq1 cq2 cq3
  have rq0 := Br6.out.cell 0
  have rq1 := Br6.out.cell 1
  have rq2 := Br6.out.cell 2
  have rq3 := Br6.out.cell 3
  simp only [List.getElem?_toArray, List.getElem?_cons_succ, List.getElem?_cons_zero] at rq0 rq1 rq2 rq3
  have dq0 := Bd6.out.cell 0
  have dq1 := Bd6.out.cell 1
  have dq2 := Bd6.out.cell 2
  have dq3 := Bd6.out.cell 3
  simp only [List.getElem?_toArray, List.getElem?_cons_succ, List.getElem?_cons_zero] at dq0 dq1 dq2 dq3
  have tq0 := Bt6.out.cell 0
  have tq1 := Bt6.out.cell 1
  have tq2 := Bt6.out.cell 2
  have tq3 := Bt6.out.cell 3
  simp only [List.getElem?_toArray, List.getElem?_cons_succ, List.getElem?_cons_zero] at tq0 tq1 tq2 tq3
  go_wp2_with fail
  refine (awake_any _).mono ?_; rintro e wq7 ⟨rfl, hb7⟩
  have Bc7 := Lib.hid (Bc6.out.bl hb7)
  have Br7 := Lib.hid (Br6.out.bl hb7)
  have Bd7 := Lib.hid (Bd6.out.bl hb7)
  have Bt7 := Lib.hid (Bt6.out.bl hb7)
  have L7 := Lib.hid (bl L6.out hb7)
  clear cq0 cq1 cq2 cq3 rq0 rq1 rq2 rq3 dq0 dq1 dq2 dq3 tq0 tq1 tq2 tq3
  clear hb7 Bc6 Br6 Bd6 Bt6 L6
  have cq0 := Bc7.out.cell 0
  have cq1 := Bc7.out.cell 1
  have cq2 := Bc7.out.cell 2
  have cq3 := Bc7.out.cell 3
  simp only [List.getElem?_toArray, List.getElem?_cons_succ, List.getElem?_cons_zero] at cq0 cq1 cq2 cq3
  have rq0 := Br7.out.cell 0
  have rq1 := Br7.out.cell 1
  have rq2 := Br7.out.cell 2
  have rq3 := Br7.out.cell 3
  simp only [List.getElem?_toArray, List.getElem?_cons_succ, List.getElem?_cons_zero] at rq0 rq1 rq2 rq3
  have dq0 := Bd7.out.cell 0
  have dq1 := Bd7.out.cell 1
  have dq2 := Bd7.out.cell 2
  have dq3 := Bd7.out.cell 3
  simp only [List.getElem?_toArray, List.getElem?_cons_succ, List.getElem?_cons_zero] at dq0 dq1 dq2 dq3
  have tq0 := Bt7.out.cell 0
  have tq1 := Bt7.out.cell 1
  have tq2 := Bt7.out.cell 2
  have tq3 := Bt7.out.cell 3
  simp only [List.getElem?_toArray, List.getElem?_cons_succ, List.getElem?_cons_zero] at tq0 tq1 tq2 tq3
  go_wp2_with fail
  go_ret
  exact ⟨rfl, L7.out⟩

set_option maxRecDepth 100000 in
set_option maxHeartbeats 4000000 in
theorem curs_A2_bad (c : Cur) (g room : Int) (sc : Cur) (me n : Int) (w : World) (hg0 : 0 ≤ g) (hg1 : g ≤ 18446744073709551615)
    (hgi : g < 9223372036854775808)
    (hr1 : decide (room < 1) = true)
    (k1 : (me != 0) = true)
    (HN : ∀ w, Calls Try.prog 11 #[.int .u64 g, .int .i64 room] w fun e w' => e = .returned (.tuple #[.agg #[.int .u64 0, .int .i64 0, .int .u64 0, .int .u64 0], .int .i64 10]) ∧ Below w.heap.size w w')
    (HI : ∀ w, Calls Try.prog 17 #[.int .u64 g] w fun e w' => e = .returned (.bool true) ∧ Below w.heap.size w w')
    (HS : ∀ w, Calls Try.prog 15 #[c.val, .int .u64 g] w fun e w' => e = .returned (.tuple #[.agg #[.int .u64 0, .int .i64 0, .int .u64 0, .int .u64 0], .int .i64 me]) ∧ Below w.heap.size w w')
    (HT : ∀ w, Calls Try.prog 13 #[c.val, .int .u64 g] w fun e w' => e = .returned (.tuple #[.int .u64 0, .agg #[.int .u64 0, .int .i64 0, .int .u64 0, .int .u64 0], .int .i64 me]) ∧ Below w.heap.size w w')
    (HM : ∀ w, Calls Try.prog 18 #[c.val, .int .u64 g] w fun e w' => e = .returned (.int .i64 me) ∧ Below w.heap.size w w')
    (HK : ∀ w, Calls Try.prog 16 #[c.val, .int .u64 g] w fun e w' => e = .returned (.int .i64 0) ∧ Below w.heap.size w w') :
    Calls Try.prog 6 #[c.val, .int .u64 g, .int .i64 room] w fun e w' => e = .returned (.bool true) ∧ Below w.heap.size w w' := by
  have JN := Lib.hid HN
  have JI := Lib.hid HI
  have JS := Lib.hid HS
  have JT := Lib.hid HT
  have JM := Lib.hid HM
  have JK := Lib.hid HK
  clear HN HI HS HT HM HK
  have k2 : (me == me) = true := by simp
  unfold Cur.val at *
  go_enter Try.func6, Try.ntmps6
  have B00 := Lib.hid ((Blk.new w 27 #[.int .u64 c.next, .int .i64 c.cap, .int .u64 c.got, .int .u64 c.lost]).alloc (.cells #[.int .u64 c.next, .int .i64 c.cap, .int .u64 c.got, .int .u64 c.lost] 46))
  have R00 := Lib.hid (show Blk ((w.alloc (.cells #[.int .u64 c.next, .int .i64 c.cap, .int .u64 c.got, .int .u64 c.lost] 27)).alloc (.cells #[.int .u64 c.next, .int .i64 c.cap, .int .u64 c.got, .int .u64 c.lost] 46)) (w.heap.size + 1) 46 #[.int .u64 c.next, .int .i64 c.cap, .int .u64 c.got, .int .u64 c.lost] by have := Blk.new (w.alloc (.cells #[.int .u64 c.next, .int .i64 c.cap, .int .u64 c.got, .int .u64 c.lost] 27)) 46 #[.int .u64 c.next, .int .i64 c.cap, .int .u64 c.got, .int .u64 c.lost]; rwa [World.size_alloc] at this)
  have L0 := Lib.hid (((Below.refl w.heap.size w).alloc (Nat.le_refl _) (.cells #[.int .u64 c.next, .int .i64 c.cap, .int .u64 c.got, .int .u64 c.lost] 27)).alloc (by simp) (.cells #[.int .u64 c.next, .int .i64 c.cap, .int .u64 c.got, .int .u64 c.lost] 46))
  go_wp2_with fail
  refine (JN.out _).mono ?_; rintro e wq1 ⟨rfl, hb1⟩
  have Bc1 := Lib.hid (B00.out.bl hb1)
  have Br1 := Lib.hid (R00.out.bl hb1)
  have L1 := Lib.hid (bl L0.out hb1)
  clear hb1 B00 R00 L0
  have cq0 := Bc1.out.cell 0
  have cq1 := Bc1.out.cell 1
  have cq2 := Bc1.out.cell 2
  have cq3 := Bc1.out.cell 3
  simp only [List.getElem?_toArray, List.getElem?_cons_succ, List.getElem?_cons_zero] at cq0 cq1 cq2 cq3
  have rq0 := Br1.out.cell 0
  have rq1 := Br1.out.cell 1
  have rq2 := Br1.out.cell 2
  have rq3 := Br1.out.cell 3
  simp only [List.getElem?_toArray, List.getElem?_cons_succ, List.getElem?_cons_zero] at rq0 rq1 rq2 rq3
  have fge := Lib.hid (show w.heap.size ≤ wq1.heap.size from L1.out.size)
  have cn1 : ¬ w.heap.size = wq1.heap.size := by have := Bc1.out.lt; omega
  have cfne := Lib.hid cn1
  have cn2 : w.heap.size < wq1.heap.size := Bc1.out.lt
  have rn1 : ¬ (w.heap.size + 1) = wq1.heap.size := by have := Br1.out.lt; omega
  have rfne := Lib.hid rn1
  have rn2 : (w.heap.size + 1) < wq1.heap.size := Br1.out.lt
  have Ac1 := Lib.hid (Bc1.out.alloc (.cells #[.int .u64 0, .int .i64 0, .int .u64 0, .int .u64 0] 27))
  have Ar1 := Lib.hid (Br1.out.alloc (.cells #[.int .u64 0, .int .i64 0, .int .u64 0, .int .u64 0] 27))
  have Af1 := Lib.hid (Blk.new wq1 27 #[.int .u64 0, .int .i64 0, .int .u64 0, .int .u64 0])
  have M1 := Lib.hid (L1.out.alloc L1.out.size (.cells #[.int .u64 0, .int .i64 0, .int .u64 0, .int .u64 0] 27))
  clear Bc1 Br1 L1
  go_wp2_with fail
  refine (JI.out _).mono ?_; rintro e wq2 ⟨rfl, hb2⟩
  have Bc2 := Lib.hid (Ac1.out.bl hb2)
  have Br2 := Lib.hid (Ar1.out.bl hb2)
  have Bf2 := Lib.hid (Af1.out.bl hb2)
  have L2 := Lib.hid (bl M1.out hb2)
  clear cq0 cq1 cq2 cq3 rq0 rq1 rq2 rq3 cn1 cn2 rn1 rn2
  clear hb2 Ac1 Ar1 Af1 M1
  generalize wq1.heap.size = gf at *
  have cq0 := Bc2.out.cell 0
  have cq1 := Bc2.out.cell 1
  have cq2 := Bc2.out.cell 2
  have cq3 := Bc2.out.cell 3
  simp only [List.getElem?_toArray, List.getElem?_cons_succ, List.getElem?_cons_zero] at cq0 cq1 cq2 cq3
  have rq0 := Br2.out.cell 0
  have rq1 := Br2.out.cell 1
  have rq2 := Br2.out.cell 2
  have rq3 := Br2.out.cell 3
  simp only [List.getElem?_toArray, List.getElem?_cons_succ, List.getElem?_cons_zero] at rq0 rq1 rq2 rq3
  have fq0 := Bf2.out.cell 0
  have fq1 := Bf2.out.cell 1
  have fq2 := Bf2.out.cell 2
  have fq3 := Bf2.out.cell 3
  simp only [List.getElem?_toArray, List.getElem?_cons_succ, List.getElem?_cons_zero] at fq0 fq1 fq2 fq3
  go_wp2_with fail
  refine (JS.out _).mono ?_; rintro e wq3 ⟨rfl, hb3⟩
  have Bc3 := Lib.hid (Bc2.out.bl hb3)
  have Br3 := Lib.hid (Br2.out.bl hb3)
  have Bf3 := Lib.hid (Bf2.out.bl hb3)
  have L3 := Lib.hid (bl L2.out hb3)
  clear cq0 cq1 cq2 cq3 rq0 rq1 rq2 rq3 fq0 fq1 fq2 fq3
  clear hb3 Bc2 Br2 Bf2 L2
  have cq0 := Bc3.out.cell 0
  have cq1 := Bc3.out.cell 1
  have cq2 := Bc3.out.cell 2
  have cq3 := Bc3.out.cell 3
  simp only [List.getElem?_toArray, List.getElem?_cons_succ, List.getElem?_cons_zero] at cq0 cq1 cq2 cq3
  have rq0 := Br3.out.cell 0
  have rq1 := Br3.out.cell 1
  have rq2 := Br3.out.cell 2
  have rq3 := Br3.out.cell 3
  simp only [List.getElem?_toArray, List.getElem?_cons_succ, List.getElem?_cons_zero] at rq0 rq1 rq2 rq3
  have fq0 := Bf3.out.cell 0
  have fq1 := Bf3.out.cell 1
  have fq2 := Bf3.out.cell 2
  have fq3 := Bf3.out.cell 3
  simp only [List.getElem?_toArray, List.getElem?_cons_succ, List.getElem?_cons_zero] at fq0 fq1 fq2 fq3
  have dge := Lib.hid (show w.heap.size ≤ wq3.heap.size from L3.out.size)
  have cn1 : ¬ w.heap.size = wq3.heap.size := by have := Bc3.out.lt; omega
  have cdne := Lib.hid cn1
  have cn2 : w.heap.size < wq3.heap.size := Bc3.out.lt
  have rn1 : ¬ (w.heap.size + 1) = wq3.heap.size := by have := Br3.out.lt; omega
  have rdne := Lib.hid rn1
  have rn2 : (w.heap.size + 1) < wq3.heap.size := Br3.out.lt
  have fn1 : ¬ gf = wq3.heap.size := by have := Bf3.out.lt; omega
  have fdne := Lib.hid fn1
  have fn2 : gf < wq3.heap.size := Bf3.out.lt
  have Ac3 := Lib.hid (Bc3.out.alloc (.cells #[.int .u64 0, .int .i64 0, .int .u64 0, .int .u64 0] 27))
  have Ar3 := Lib.hid (Br3.out.alloc (.cells #[.int .u64 0, .int .i64 0, .int .u64 0, .int .u64 0] 27))
  have Af3 := Lib.hid (Bf3.out.alloc (.cells #[.int .u64 0, .int .i64 0, .int .u64 0, .int .u64 0] 27))
  have Ad3 := Lib.hid (Blk.new wq3 27 #[.int .u64 0, .int .i64 0, .int .u64 0, .int .u64 0])
  have M3 := Lib.hid (L3.out.alloc L3.out.size (.cells #[.int .u64 0, .int .i64 0, .int .u64 0, .int .u64 0] 27))
  clear Bc3 Br3 Bf3 L3
  go_wp2_with fail
  refine (JT.out _).mono ?_; rintro e wq4 ⟨rfl, hb4⟩
  have Bc4 := Lib.hid (Ac3.out.bl hb4)
  have Br4 := Lib.hid (Ar3.out.bl hb4)
  have Bd4 := Lib.hid (Ad3.out.bl hb4)
  have L4 := Lib.hid (bl M3.out hb4)
  clear cq0 cq1 cq2 cq3 rq0 rq1 rq2 rq3 fq0 fq1 fq2 fq3 cn1 cn2 rn1 rn2 fn1 fn2
  clear hb4 Ac3 Ar3 Ad3 M3
  generalize wq3.heap.size = gd at *
  have cq0 := Bc4.out.cell 0
  have cq1 := Bc4.out.cell 1
  have cq2 := Bc4.out.cell 2
  have cq3 := Bc4.out.cell 3
  simp only [List.getElem?_toArray, List.getElem?_cons_succ, List.getElem?_cons_zero] at cq0 cq1 cq2 cq3
  have rq0 := Br4.out.cell 0
  have rq1 := Br4.out.cell 1
  have rq2 := Br4.out.cell 2
  have rq3 := Br4.out.cell 3
  simp only [List.getElem?_toArray, List.getElem?_cons_succ, List.getElem?_cons_zero] at rq0 rq1 rq2 rq3
  have dq0 := Bd4.out.cell 0
  have dq1 := Bd4.out.cell 1
  have dq2 := Bd4.out.cell 2
  have dq3 := Bd4.out.cell 3
  simp only [List.getElem?_toArray, List.getElem?_cons_succ, List.getElem?_cons_zero] at dq0 dq1 dq2 dq3
  have tge := Lib.hid (show w.heap.size ≤ wq4.heap.size from L4.out.size)
  have cn1 : ¬ w.heap.size = wq4.heap.size := by have := Bc4.out.lt; omega
  have ctne := Lib.hid cn1
  have cn2 : w.heap.size < wq4.heap.size := Bc4.out.lt
  have rn1 : ¬ (w.heap.size + 1) = wq4.heap.size := by have := Br4.out.lt; omega
  have rtne := Lib.hid rn1
  have rn2 : (w.heap.size + 1) < wq4.heap.size := Br4.out.lt
  have dn1 : ¬ gd = wq4.heap.size := by have := Bd4.out.lt; omega
  have dtne := Lib.hid dn1
  have dn2 : gd < wq4.heap.size := Bd4.out.lt
  have Ac4 := Lib.hid (Bc4.out.alloc (.cells #[.int .u64 0, .int .i64 0, .int .u64 0, .int .u64 0] 27))
  have Ar4 := Lib.hid (Br4.out.alloc (.cells #[.int .u64 0, .int .i64 0, .int .u64 0, .int .u64 0] 27))
  have Ad4 := Lib.hid (Bd4.out.alloc (.cells #[.int .u64 0, .int .i64 0, .int .u64 0, .int .u64 0] 27))
  have At4 := Lib.hid (Blk.new wq4 27 #[.int .u64 0, .int .i64 0, .int .u64 0, .int .u64 0])
  have M4 := Lib.hid (L4.out.alloc L4.out.size (.cells #[.int .u64 0, .int .i64 0, .int .u64 0, .int .u64 0] 27))
  clear Bc4 Br4 Bd4 L4
  go_wp2_with fail
  refine (JM.out _).mono ?_; rintro e wq5 ⟨rfl, hb5⟩
  have Bc5 := Lib.hid (Ac4.out.bl hb5)
  have Br5 := Lib.hid (Ar4.out.bl hb5)
  have Bd5 := Lib.hid (Ad4.out.bl hb5)
  have Bt5 := Lib.hid (At4.out.bl hb5)
  have L5 := Lib.hid (bl M4.out hb5)
  clear cq0 cq1 cq2 cq3 rq0 rq1 rq2 rq3 dq0 dq1 dq2 dq3 cn1 cn2 rn1 rn2 dn1 dn2
  clear hb5 Ac4 Ar4 Ad4 At4 M4
  generalize wq4.heap.size = gt at *
  have cq0 := Bc5.out.cell 0
  have cq1 := Bc5.out.cell 1
  have cq2 := Bc5.out.cell 2
  have cq3 := Bc5.out.cell 3
  simp only [List.getElem?_toArray, List.getElem?_cons_succ, List.getElem?_cons_zero] at cq0 cq1 cq2 cq3
  have rq0 := Br5.out.cell 0
  have rq1 := Br5.out.cell 1
  have rq2 := Br5.out.cell 2
  have rq3 := Br5.out.cell 3
  simp only [List.getElem?_toArray, List.getElem?_cons_succ, List.getElem?_cons_zero] at rq0 rq1 rq2 rq3
  have dq0 := Bd5.out.cell 0
  have dq1 := Bd5.out.cell 1
  have dq2 := Bd5.out.cell 2
  have dq3 := Bd5.out.cell 3
  simp only [List.getElem?_toArray, List.getElem?_cons_succ, List.getElem?_cons_zero] at dq0 dq1 dq2 dq3
  have tq0 := Bt5.out.cell 0
  have tq1 := Bt5.out.cell 1
  have tq2 := Bt5.out.cell 2
  have tq3 := Bt5.out.cell 3
  simp only [List.getElem?_toArray, List.getElem?_cons_succ, List.getElem?_cons_zero] at tq0 tq1 tq2 tq3
  go_wp2_with fail
  refine (JK.out _).mono ?_; rintro e wq6 ⟨rfl, hb6⟩
  have Bc6 := Lib.hid (Bc5.out.bl hb6)
  have Br6 := Lib.hid (Br5.out.bl hb6)
  have Bd6 := Lib.hid (Bd5.out.bl hb6)
  have Bt6 := Lib.hid (Bt5.out.bl hb6)
  have L6 := Lib.hid (bl L5.out hb6)
  clear cq0 cq1 cq2 cq3 rq0 rq1 rq2 rq3 dq0 dq1 dq2 dq3 tq0 tq1 tq2 tq3
  clear hb6 Bc5 Br5 Bd5 Bt5 L5
  have cq0 := Bc6.out.cell 0
  have cq1 := Bc6.out.cell 1
  have cq2 := Bc6.out.cell 2
  have cq3 := Bc6.out.cell 3
  simp only [List.getElem?_toArray, List.getElem?_cons_succ, List.getElem?_cons_zero] at cq0 cq1 cq2 cq3
  have rq0 := Br6.out.cell 0
  have rq1 := Br6.out.cell 1
  have rq2 := Br6.out.cell 2
  have rq3 := Br6.out.cell 3
  simp only [List.getElem?_toArray, List.getElem?_cons_succ, List.getElem?_cons_zero] at rq0 rq1 rq2 rq3
  have dq0 := Bd6.out.cell 0
  have dq1 := Bd6.out.cell 1
  have dq2 := Bd6.out.cell 2
  have dq3 := Bd6.out.cell 3
  simp only [List.getElem?_toArray, List.getElem?_cons_succ, List.getElem?_cons_zero] at dq0 dq1 dq2 dq3
  have tq0 := Bt6.out.cell 0
  have tq1 := Bt6.out.cell 1
  have tq2 := Bt6.out.cell 2
  have tq3 := Bt6.out.cell 3
  simp only [List.getElem?_toArray, List.getElem?_cons_succ, List.getElem?_cons_zero] at tq0 tq1 tq2 tq3
  go_wp2_with fail
  refine (awake_any _).mono ?_; rintro e wq7 ⟨rfl, hb7⟩
  have Bc7 := Lib.hid (Bc6.out.bl hb7)
  have Br7 := Lib.hid (Br6.out.bl hb7)
  have Bd7 := Lib.hid (Bd6.out.bl hb7)
  have Bt7 := Lib.hid (Bt6.out.bl hb7)
  have L7 := Lib.hid (bl L6.out hb7)
  clear cq0 cq1 cq2 cq3 rq0 rq1 rq2 rq3 dq0 dq1 dq2 dq3 tq0 tq1 tq2 tq3
  clear hb7 Bc6 Br6 Bd6 Bt6 L6
  have cq0 := Bc7.out.cell 0
  have cq1 := Bc7.out.cell 1
  have cq2 := Bc7.out.cell 2
  have cq3 := Bc7.out.cell 3
  simp only [List.getElem?_toArray, List.getElem?_cons_succ, List.getElem?_cons_zero] at cq0 cq1 cq2 cq3
  have rq0 := Br7.out.cell 0
  have rq1 := Br7.out.cell 1
  have rq2 := Br7.out.cell 2
  have rq3 := Br7.out.cell 3
  simp only [List.getElem?_toArray, List.getElem?_cons_succ, List.getElem?_cons_zero] at rq0 rq1 rq2 rq3
  have dq0 := Bd7.out.cell 0
  have dq1 := Bd7.out.cell 1
  have dq2 := Bd7.out.cell 2
  have dq3 := Bd7.out.cell 3
  simp only [List.getElem?_toArray, List.getElem?_cons_succ, List.getElem?_cons_zero] at dq0 dq1 dq2 dq3
  have tq0 := Bt7.out.cell 0
  have tq1 := Bt7.out.cell 1
  have tq2 := Bt7.out.cell 2
  have tq3 := Bt7.out.cell 3
  simp only [List.getElem?_toArray, List.getElem?_cons_succ, List.getElem?_cons_zero] at tq0 tq1 tq2 tq3
  go_wp2_with fail
  go_ret
  exact ⟨rfl, L7.out⟩

set_option maxRecDepth 100000 in
set_option maxHeartbeats 4000000 in
theorem curs_A3_bad (c : Cur) (g room : Int) (sc : Cur) (me n : Int) (w : World) (hg0 : 0 ≤ g) (hg1 : g ≤ 18446744073709551615)
    (hgi : g < 9223372036854775808)
    (hr1 : decide (room < 1) = false) (hr2 : decide (15 < room) = true)
    (k1 : (me != 0) = true)
    (HN : ∀ w, Calls Try.prog 11 #[.int .u64 g, .int .i64 room] w fun e w' => e = .returned (.tuple #[.agg #[.int .u64 0, .int .i64 0, .int .u64 0, .int .u64 0], .int .i64 10]) ∧ Below w.heap.size w w')
    (HI : ∀ w, Calls Try.prog 17 #[.int .u64 g] w fun e w' => e = .returned (.bool true) ∧ Below w.heap.size w w')
    (HS : ∀ w, Calls Try.prog 15 #[c.val, .int .u64 g] w fun e w' => e = .returned (.tuple #[.agg #[.int .u64 0, .int .i64 0, .int .u64 0, .int .u64 0], .int .i64 me]) ∧ Below w.heap.size w w')
    (HT : ∀ w, Calls Try.prog 13 #[c.val, .int .u64 g] w fun e w' => e = .returned (.tuple #[.int .u64 0, .agg #[.int .u64 0, .int .i64 0, .int .u64 0, .int .u64 0], .int .i64 me]) ∧ Below w.heap.size w w')
    (HM : ∀ w, Calls Try.prog 18 #[c.val, .int .u64 g] w fun e w' => e = .returned (.int .i64 me) ∧ Below w.heap.size w w')
    (HK : ∀ w, Calls Try.prog 16 #[c.val, .int .u64 g] w fun e w' => e = .returned (.int .i64 0) ∧ Below w.heap.size w w') :
    Calls Try.prog 6 #[c.val, .int .u64 g, .int .i64 room] w fun e w' => e = .returned (.bool true) ∧ Below w.heap.size w w' := by
  have JN := Lib.hid HN
  have JI := Lib.hid HI
  have JS := Lib.hid HS
  have JT := Lib.hid HT
  have JM := Lib.hid HM
  have JK := Lib.hid HK
  clear HN HI HS HT HM HK
  have k2 : (me == me) = true := by simp
  unfold Cur.val at *
  go_enter Try.func6, Try.ntmps6
  have B00 := Lib.hid ((Blk.new w 27 #[.int .u64 c.next, .int .i64 c.cap, .int .u64 c.got, .int .u64 c.lost]).alloc (.cells #[.int .u64 c.next, .int .i64 c.cap, .int .u64 c.got, .int .u64 c.lost] 46))
  have R00 := Lib.hid (show Blk ((w.alloc (.cells #[.int .u64 c.next, .int .i64 c.cap, .int .u64 c.got, .int .u64 c.lost] 27)).alloc (.cells #[.int .u64 c.next, .int .i64 c.cap, .int .u64 c.got, .int .u64 c.lost] 46)) (w.heap.size + 1) 46 #[.int .u64 c.next, .int .i64 c.cap, .int .u64 c.got, .int .u64 c.lost] by have := Blk.new (w.alloc (.cells #[.int .u64 c.next, .int .i64 c.cap, .int .u64 c.got, .int .u64 c.lost] 27)) 46 #[.int .u64 c.next, .int .i64 c.cap, .int .u64 c.got, .int .u64 c.lost]; rwa [World.size_alloc] at this)
  have L0 := Lib.hid (((Below.refl w.heap.size w).alloc (Nat.le_refl _) (.cells #[.int .u64 c.next, .int .i64 c.cap, .int .u64 c.got, .int .u64 c.lost] 27)).alloc (by simp) (.cells #[.int .u64 c.next, .int .i64 c.cap, .int .u64 c.got, .int .u64 c.lost] 46))
  go_wp2_with fail
  refine (JN.out _).mono ?_; rintro e wq1 ⟨rfl, hb1⟩
  have Bc1 := Lib.hid (B00.out.bl hb1)
  have Br1 := Lib.hid (R00.out.bl hb1)
  have L1 := Lib.hid (bl L0.out hb1)
  clear hb1 B00 R00 L0
  have cq0 := Bc1.out.cell 0
  have cq1 := Bc1.out.cell 1
  have cq2 := Bc1.out.cell 2
  have cq3 := Bc1.out.cell 3
  simp only [List.getElem?_toArray, List.getElem?_cons_succ, List.getElem?_cons_zero] at cq0 cq1 cq2 cq3
  have rq0 := Br1.out.cell 0
  have rq1 := Br1.out.cell 1
  have rq2 := Br1.out.cell 2
  have rq3 := Br1.out.cell 3
  simp only [List.getElem?_toArray, List.getElem?_cons_succ, List.getElem?_cons_zero] at rq0 rq1 rq2 rq3
  have fge := Lib.hid (show w.heap.size ≤ wq1.heap.size from L1.out.size)
  have cn1 : ¬ w.heap.size = wq1.heap.size := by have := Bc1.out.lt; omega
  have cfne := Lib.hid cn1
  have cn2 : w.heap.size < wq1.heap.size := Bc1.out.lt
  have rn1 : ¬ (w.heap.size + 1) = wq1.heap.size := by have := Br1.out.lt; omega
  have rfne := Lib.hid rn1
  have rn2 : (w.heap.size + 1) < wq1.heap.size := Br1.out.lt
  have Ac1 := Lib.hid (Bc1.out.alloc (.cells #[.int .u64 0, .int .i64 0, .int .u64 0, .int .u64 0] 27))
  have Ar1 := Lib.hid (Br1.out.alloc (.cells #[.int .u64 0, .int .i64 0, .int .u64 0, .int .u64 0] 27))
  have Af1 := Lib.hid (Blk.new wq1 27 #[.int .u64 0, .int .i64 0, .int .u64 0, .int .u64 0])
  have M1 := Lib.hid (L1.out.alloc L1.out.size (.cells #[.int .u64 0, .int .i64 0, .int .u64 0, .int .u64 0] 27))
  clear Bc1 Br1 L1
  go_wp2_with fail
  refine (JI.out _).mono ?_; rintro e wq2 ⟨rfl, hb2⟩
  have Bc2 := Lib.hid (Ac1.out.bl hb2)
  have Br2 := Lib.hid (Ar1.out.bl hb2)
  have Bf2 := Lib.hid (Af1.out.bl hb2)
  have L2 := Lib.hid (bl M1.out hb2)
  clear cq0 cq1 cq2 cq3 rq0 rq1 rq2 rq3 cn1 cn2 rn1 rn2
  clear hb2 Ac1 Ar1 Af1 M1
  generalize wq1.heap.size = gf at *
  have cq0 := Bc2.out.cell 0
  have cq1 := Bc2.out.cell 1
  have cq2 := Bc2.out.cell 2
  have cq3 := Bc2.out.cell 3
  simp only [List.getElem?_toArray, List.getElem?_cons_succ, List.getElem?_cons_zero] at cq0 cq1 cq2 cq3
  have rq0 := Br2.out.cell 0
  have rq1 := Br2.out.cell 1
  have rq2 := Br2.out.cell 2
  have rq3 := Br2.out.cell 3
  simp only [List.getElem?_toArray, List.getElem?_cons_succ, List.getElem?_cons_zero] at rq0 rq1 rq2 rq3
  have fq0 := Bf2.out.cell 0
  have fq1 := Bf2.out.cell 1
  have fq2 := Bf2.out.cell 2
  have fq3 := Bf2.out.cell 3
  simp only [List.getElem?_toArray, List.getElem?_cons_succ, List.getElem?_cons_zero] at fq0 fq1 fq2 fq3
  go_wp2_with fail
  refine (JS.out _).mono ?_; rintro e wq3 ⟨rfl, hb3⟩
  have Bc3 := Lib.hid (Bc2.out.bl hb3)
  have Br3 := Lib.hid (Br2.out.bl hb3)
  have Bf3 := Lib.hid (Bf2.out.bl hb3)
  have L3 := Lib.hid (bl L2.out hb3)
  clear cq0 cq1 cq2 cq3 rq0 rq1 rq2 rq3 fq0 fq1 fq2 fq3
  clear hb3 Bc2 Br2 Bf2 L2
  have cq0 := Bc3.out.cell 0
  have cq1 := Bc3.out.cell 1
  have cq2 := Bc3.out.cell 2
  have cq3 := Bc3.out.cell 3
  simp only [List.getElem?_toArray, List.getElem?_cons_succ, List.getElem?_cons_zero] at cq0 cq1 cq2 cq3
  have rq0 := Br3.out.cell 0
  have rq1 := Br3.out.cell 1
  have rq2 := Br3.out.cell 2
  have rq3 := Br3.out.cell 3
  simp only [List.getElem?_toArray, List.getElem?_cons_succ, List.getElem?_cons_zero] at rq0 rq1 rq2 rq3
  have fq0 := Bf3.out.cell 0
  have fq1 := Bf3.out.cell 1
  have fq2 := Bf3.out.cell 2
  have fq3 := Bf3.out.cell 3
  simp only [List.getElem?_toArray, List.getElem?_cons_succ, List.getElem?_cons_zero] at fq0 fq1 fq2 fq3
  have dge := Lib.hid (show w.heap.size ≤ wq3.heap.size from L3.out.size)
  have cn1 : ¬ w.heap.size = wq3.heap.size := by have := Bc3.out.lt; omega
  have cdne := Lib.hid cn1
  have cn2 : w.heap.size < wq3.heap.size := Bc3.out.lt
  have rn1 : ¬ (w.heap.size + 1) = wq3.heap.size := by have := Br3.out.lt; omega
  have rdne := Lib.hid rn1
  have rn2 : (w.heap.size + 1) < wq3.heap.size := Br3.out.lt
  have fn1 : ¬ gf = wq3.heap.size := by have := Bf3.out.lt; omega
  have fdne := Lib.hid fn1
  have fn2 : gf < wq3.heap.size := Bf3.out.lt
  have Ac3 := Lib.hid (Bc3.out.alloc (.cells #[.int .u64 0, .int .i64 0, .int .u64 0, .int .u64 0] 27))
  have Ar3 := Lib.hid (Br3.out.alloc (.cells #[.int .u64 0, .int .i64 0, .int .u64 0, .int .u64 0] 27))
  have Af3 := Lib.hid (Bf3.out.alloc (.cells #[.int .u64 0, .int .i64 0, .int .u64 0, .int .u64 0] 27))
  have Ad3 := Lib.hid (Blk.new wq3 27 #[.int .u64 0, .int .i64 0, .int .u64 0, .int .u64 0])
  have M3 := Lib.hid (L3.out.alloc L3.out.size (.cells #[.int .u64 0, .int .i64 0, .int .u64 0, .int .u64 0] 27))
  clear Bc3 Br3 Bf3 L3
  go_wp2_with fail
  refine (JT.out _).mono ?_; rintro e wq4 ⟨rfl, hb4⟩
  have Bc4 := Lib.hid (Ac3.out.bl hb4)
  have Br4 := Lib.hid (Ar3.out.bl hb4)
  have Bd4 := Lib.hid (Ad3.out.bl hb4)
  have L4 := Lib.hid (bl M3.out hb4)
  clear cq0 cq1 cq2 cq3 rq0 rq1 rq2 rq3 fq0 fq1 fq2 fq3 cn1 cn2 rn1 rn2 fn1 fn2
  clear hb4 Ac3 Ar3 Ad3 M3
  generalize wq3.heap.size = gd at *
  have cq0 := Bc4.out.cell 0
  have cq1 := Bc4.out.cell 1
  have cq2 := Bc4.out.cell 2
  have cq3 := Bc4.out.cell 3
  simp only [List.getElem?_toArray, List.getElem?_cons_succ, List.getElem?_cons_zero] at cq0 cq1 cq2 cq3
  have rq0 := Br4.out.cell 0
  have rq1 := Br4.out.cell 1
  have rq2 := Br4.out.cell 2
  have rq3 := Br4.out.cell 3
  simp only [List.getElem?_toArray, List.getElem?_cons_succ, List.getElem?_cons_zero] at rq0 rq1 rq2 rq3
  have dq0 := Bd4.out.cell 0
  have dq1 := Bd4.out.cell 1
  have dq2 := Bd4.out.cell 2
  have dq3 := Bd4.out.cell 3
  simp only [List.getElem?_toArray, List.getElem?_cons_succ, List.getElem?_cons_zero] at dq0 dq1 dq2 dq3
  have tge := Lib.hid (show w.heap.size ≤ wq4.heap.size from L4.out.size)
  have cn1 : ¬ w.heap.size = wq4.heap.size := by have := Bc4.out.lt; omega
  have ctne := Lib.hid cn1
  have cn2 : w.heap.size < wq4.heap.size := Bc4.out.lt
  have rn1 : ¬ (w.heap.size + 1) = wq4.heap.size := by have := Br4.out.lt; omega
  have rtne := Lib.hid rn1
  have rn2 : (w.heap.size + 1) < wq4.heap.size := Br4.out.lt
  have dn1 : ¬ gd = wq4.heap.size := by have := Bd4.out.lt; omega
  have dtne := Lib.hid dn1
  have dn2 : gd < wq4.heap.size := Bd4.out.lt
  have Ac4 := Lib.hid (Bc4.out.alloc (.cells #[.int .u64 0, .int .i64 0, .int .u64 0, .int .u64 0] 27))
  have Ar4 := Lib.hid (Br4.out.alloc (.cells #[.int .u64 0, .int .i64 0, .int .u64 0, .int .u64 0] 27))
  have Ad4 := Lib.hid (Bd4.out.alloc (.cells #[.int .u64 0, .int .i64 0, .int .u64 0, .int .u64 0] 27))
  have At4 := Lib.hid (Blk.new wq4 27 #[.int .u64 0, .int .i64 0, .int .u64 0, .int .u64 0])
  have M4 := Lib.hid (L4.out.alloc L4.out.size (.cells #[.int .u64 0, .int .i64 0, .int .u64 0, .int .u64 0] 27))
  clear Bc4 Br4 Bd4 L4
  go_wp2_with fail
  refine (JM.out _).mono ?_; rintro e wq5 ⟨rfl, hb5⟩
  have Bc5 := Lib.hid (Ac4.out.bl hb5)
  have Br5 := Lib.hid (Ar4.out.bl hb5)
  have Bd5 := Lib.hid (Ad4.out.bl hb5)
  have Bt5 := Lib.hid (At4.out.bl hb5)
  have L5 := Lib.hid (bl M4.out hb5)
  clear cq0 cq1 cq2 cq3 rq0 rq1 rq2 rq3 dq0 dq1 dq2 dq3 cn1 cn2 rn1 rn2 dn1 dn2
  clear hb5 Ac4 Ar4 Ad4 At4 M4
  generalize wq4.heap.size = gt at *
  have cq0 := Bc5.out.cell 0
  have cq1 := Bc5.out.cell 1
  have cq2 := Bc5.out.cell 2
  have cq3 := Bc5.out.cell 3
  simp only [List.getElem?_toArray, List.getElem?_cons_succ, List.getElem?_cons_zero] at cq0 cq1 cq2 cq3
  have rq0 := Br5.out.cell 0
  have rq1 := Br5.out.cell 1
  have rq2 := Br5.out.cell 2
  have rq3 := Br5.out.cell 3
  simp only [List.getElem?_toArray, List.getElem?_cons_succ, List.getElem?_cons_zero] at rq0 rq1 rq2 rq3
  have dq0 := Bd5.out.cell 0
  have dq1 := Bd5.out.cell 1
  have dq2 := Bd5.out.cell 2
  have dq3 := Bd5.out.cell 3
  simp only [List.getElem?_toArray, List.getElem?_cons_succ, List.getElem?_cons_zero] at dq0 dq1 dq2 dq3
  have tq0 := Bt5.out.cell 0
  have tq1 := Bt5.out.cell 1
  have tq2 := Bt5.out.cell 2
  have tq3 := Bt5.out.cell 3
  simp only [List.getElem?_toArray, List.getElem?_cons_succ, List.getElem?_cons_zero] at tq0 tq1 tq2 tq3
  go_wp2_with fail
  refine (JK.out _).mono ?_; rintro e wq6 ⟨rfl, hb6⟩
  have Bc6 := Lib.hid (Bc5.out.bl hb6)
  have Br6 := Lib.hid (Br5.out.bl hb6)
  have Bd6 := Lib.hid (Bd5.out.bl hb6)
  have Bt6 := Lib.hid (Bt5.out.bl hb6)
  have L6 := Lib.hid (bl L5.out hb6)
  clear cq0 cq1 cq2 cq3 rq0 rq1 rq2 rq3 dq0 dq1 dq2 dq3 tq0 tq1 tq2 tq3
  clear hb6 Bc5 Br5 Bd5 Bt5 L5
  have cq0 := Bc6.out.cell 0
  have cq1 := Bc6.out.cell 1
  have cq2 := Bc6.out.cell 2
  have cq3 := Bc6.out.cell 3
  simp only [List.getElem?_toArray, List.getElem?_cons_succ, List.getElem?_cons_zero] at cq0 cq1 cq2 cq3
  have rq0 := Br6.out.cell 0
  have rq1 := Br6.out.cell 1
  have rq2 := Br6.out.cell 2
  have rq3 := Br6.out.cell 3
  simp only [List.getElem?_toArray, List.getElem?_cons_succ, List.getElem?_cons_zero] at rq0 rq1 rq2 rq3
  have dq0 := Bd6.out.cell 0
  have dq1 := Bd6.out.cell 1
  have dq2 := Bd6.out.cell 2
  have dq3 := Bd6.out.cell 3
  simp only [List.getElem?_toArray, List.getElem?_cons_succ, List.getElem?_cons_zero] at dq0 dq1 dq2 dq3
  have tq0 := Bt6.out.cell 0
  have tq1 := Bt6.out.cell 1
  have tq2 := Bt6.out.cell 2
  have tq3 := Bt6.out.cell 3
  simp only [List.getElem?_toArray, List.getElem?_cons_succ, List.getElem?_cons_zero] at tq0 tq1 tq2 tq3
  go_wp2_with fail
  refine (awake_any _).mono ?_; rintro e wq7 ⟨rfl, hb7⟩
  have Bc7 := Lib.hid (Bc6.out.bl hb7)
  have Br7 := Lib.hid (Br6.out.bl hb7)
  have Bd7 := Lib.hid (Bd6.out.bl hb7)
  have Bt7 := Lib.hid (Bt6.out.bl hb7)
  have L7 := Lib.hid (bl L6.out hb7)
  clear cq0 cq1 cq2 cq3 rq0 rq1 rq2 rq3 dq0 dq1 dq2 dq3 tq0 tq1 tq2 tq3
  clear hb7 Bc6 Br6 Bd6 Bt6 L6
  have cq0 := Bc7.out.cell 0
  have cq1 := Bc7.out.cell 1
  have cq2 := Bc7.out.cell 2
  have cq3 := Bc7.out.cell 3
  simp only [List.getElem?_toArray, List.getElem?_cons_succ, List.getElem?_cons_zero] at cq0 cq1 cq2 cq3
  have rq0 := Br7.out.cell 0
  have rq1 := Br7.out.cell 1
  have rq2 := Br7.out.cell 2
  have rq3 := Br7.out.cell 3
  simp only [List.getElem?_toArray, List.getElem?_cons_succ, List.getElem?_cons_zero] at rq0 rq1 rq2 rq3
  have dq0 := Bd7.out.cell 0
  have dq1 := Bd7.out.cell 1
  have dq2 := Bd7.out.cell 2
  have dq3 := Bd7.out.cell 3
  simp only [List.getElem?_toArray, List.getElem?_cons_succ, List.getElem?_cons_zero] at dq0 dq1 dq2 dq3
  have tq0 := Bt7.out.cell 0
  have tq1 := Bt7.out.cell 1
  have tq2 := Bt7.out.cell 2
  have tq3 := Bt7.out.cell 3
  simp only [List.getElem?_toArray, List.getElem?_cons_succ, List.getElem?_cons_zero] at tq0 tq1 tq2 tq3
  go_wp2_with fail
  go_ret
  exact ⟨rfl, L7.out⟩

set_option maxRecDepth 100000 in
set_option maxHeartbeats 4000000 in
theorem curs_A4_bad (c : Cur) (g room : Int) (sc : Cur) (me n : Int) (w : World) (hg0 : 0 ≤ g) (hg1 : g ≤ 18446744073709551615)
    (hgi : g < 9223372036854775808)
    (hr1 : decide (room < 1) = false) (hr2 : decide (15 < room) = false)
    (k1 : (me != 0) = true)
    (HN : ∀ w, Calls Try.prog 11 #[.int .u64 g, .int .i64 room] w fun e w' => e = .returned (.tuple #[.agg #[.int .u64 (g + 1), .int .i64 room, .int .u64 0, .int .u64 0], .int .i64 0]) ∧ Below w.heap.size w w')
    (HI : ∀ w, Calls Try.prog 17 #[.int .u64 g] w fun e w' => e = .returned (.bool true) ∧ Below w.heap.size w w')
    (HS : ∀ w, Calls Try.prog 15 #[c.val, .int .u64 g] w fun e w' => e = .returned (.tuple #[.agg #[.int .u64 0, .int .i64 0, .int .u64 0, .int .u64 0], .int .i64 me]) ∧ Below w.heap.size w w')
    (HT : ∀ w, Calls Try.prog 13 #[c.val, .int .u64 g] w fun e w' => e = .returned (.tuple #[.int .u64 0, .agg #[.int .u64 0, .int .i64 0, .int .u64 0, .int .u64 0], .int .i64 me]) ∧ Below w.heap.size w w')
    (HM : ∀ w, Calls Try.prog 18 #[c.val, .int .u64 g] w fun e w' => e = .returned (.int .i64 me) ∧ Below w.heap.size w w')
    (HK : ∀ w, Calls Try.prog 16 #[c.val, .int .u64 g] w fun e w' => e = .returned (.int .i64 0) ∧ Below w.heap.size w w') :
    Calls Try.prog 6 #[c.val, .int .u64 g, .int .i64 room] w fun e w' => e = .returned (.bool true) ∧ Below w.heap.size w w' := by
  have JN := Lib.hid HN
  have JI := Lib.hid HI
  have JS := Lib.hid HS
  have JT := Lib.hid HT
  have JM := Lib.hid HM
  have JK := Lib.hid HK
  clear HN HI HS HT HM HK
  have k2 : (me == me) = true := by simp
  unfold Cur.val at *
  go_enter Try.func6, Try.ntmps6
  have B00 := Lib.hid ((Blk.new w 27 #[.int .u64 c.next, .int .i64 c.cap, .int .u64 c.got, .int .u64 c.lost]).alloc (.cells #[.int .u64 c.next, .int .i64 c.cap, .int .u64 c.got, .int .u64 c.lost] 46))
  have R00 := Lib.hid (show Blk ((w.alloc (.cells #[.int .u64 c.next, .int .i64 c.cap, .int .u64 c.got, .int .u64 c.lost] 27)).alloc (.cells #[.int .u64 c.next, .int .i64 c.cap, .int .u64 c.got, .int .u64 c.lost] 46)) (w.heap.size + 1) 46 #[.int .u64 c.next, .int .i64 c.cap, .int .u64 c.got, .int .u64 c.lost] by have := Blk.new (w.alloc (.cells #[.int .u64 c.next, .int .i64 c.cap, .int .u64 c.got, .int .u64 c.lost] 27)) 46 #[.int .u64 c.next, .int .i64 c.cap, .int .u64 c.got, .int .u64 c.lost]; rwa [World.size_alloc] at this)
  have L0 := Lib.hid (((Below.refl w.heap.size w).alloc (Nat.le_refl _) (.cells #[.int .u64 c.next, .int .i64 c.cap, .int .u64 c.got, .int .u64 c.lost] 27)).alloc (by simp) (.cells #[.int .u64 c.next, .int .i64 c.cap, .int .u64 c.got, .int .u64 c.lost] 46))
  go_wp2_with fail
  refine (JN.out _).mono ?_; rintro e wq1 ⟨rfl, hb1⟩
  have Bc1 := Lib.hid (B00.out.bl hb1)
  have Br1 := Lib.hid (R00.out.bl hb1)
  have L1 := Lib.hid (bl L0.out hb1)
  clear hb1 B00 R00 L0
  have cq0 := Bc1.out.cell 0
  have cq1 := Bc1.out.cell 1
  have cq2 := Bc1.out.cell 2
  have cq3 := Bc1.out.cell 3
  simp only [List.getElem?_toArray, List.getElem?_cons_succ, List.getElem?_cons_zero] at cq0 cq1 cq2 cq3
  have rq0 := Br1.out.cell 0
  have rq1 := Br1.out.cell 1
  have rq2 := Br1.out.cell 2
  have rq3 := Br1.out.cell 3
  simp only [List.getElem?_toArray, List.getElem?_cons_succ, List.getElem?_cons_zero] at rq0 rq1 rq2 rq3
  have fge := Lib.hid (show w.heap.size ≤ wq1.heap.size from L1.out.size)
  have cn1 : ¬ w.heap.size = wq1.heap.size := by have := Bc1.out.lt; omega
  have cfne := Lib.hid cn1
  have cn2 : w.heap.size < wq1.heap.size := Bc1.out.lt
  have rn1 : ¬ (w.heap.size + 1) = wq1.heap.size := by have := Br1.out.lt; omega
  have rfne := Lib.hid rn1
  have rn2 : (w.heap.size + 1) < wq1.heap.size := Br1.out.lt
  have Ac1 := Lib.hid (Bc1.out.alloc (.cells #[.int .u64 (g + 1), .int .i64 room, .int .u64 0, .int .u64 0] 27))
  have Ar1 := Lib.hid (Br1.out.alloc (.cells #[.int .u64 (g + 1), .int .i64 room, .int .u64 0, .int .u64 0] 27))
  have Af1 := Lib.hid (Blk.new wq1 27 #[.int .u64 (g + 1), .int .i64 room, .int .u64 0, .int .u64 0])
  have M1 := Lib.hid (L1.out.alloc L1.out.size (.cells #[.int .u64 (g + 1), .int .i64 room, .int .u64 0, .int .u64 0] 27))
  clear Bc1 Br1 L1
  go_wp2_with fail
  refine (JI.out _).mono ?_; rintro e wq2 ⟨rfl, hb2⟩
  have Bc2 := Lib.hid (Ac1.out.bl hb2)
  have Br2 := Lib.hid (Ar1.out.bl hb2)
  have Bf2 := Lib.hid (Af1.out.bl hb2)
  have L2 := Lib.hid (bl M1.out hb2)
  clear cq0 cq1 cq2 cq3 rq0 rq1 rq2 rq3 cn1 cn2 rn1 rn2
  clear hb2 Ac1 Ar1 Af1 M1
  generalize wq1.heap.size = gf at *
  have cq0 := Bc2.out.cell 0
  have cq1 := Bc2.out.cell 1
  have cq2 := Bc2.out.cell 2
  have cq3 := Bc2.out.cell 3
  simp only [List.getElem?_toArray, List.getElem?_cons_succ, List.getElem?_cons_zero] at cq0 cq1 cq2 cq3
  have rq0 := Br2.out.cell 0
  have rq1 := Br2.out.cell 1
  have rq2 := Br2.out.cell 2
  have rq3 := Br2.out.cell 3
  simp only [List.getElem?_toArray, List.getElem?_cons_succ, List.getElem?_cons_zero] at rq0 rq1 rq2 rq3
  have fq0 := Bf2.out.cell 0
  have fq1 := Bf2.out.cell 1
  have fq2 := Bf2.out.cell 2
  have fq3 := Bf2.out.cell 3
  simp only [List.getElem?_toArray, List.getElem?_cons_succ, List.getElem?_cons_zero] at fq0 fq1 fq2 fq3
  go_wp2_with fail
  refine (JS.out _).mono ?_; rintro e wq3 ⟨rfl, hb3⟩
  have Bc3 := Lib.hid (Bc2.out.bl hb3)
  have Br3 := Lib.hid (Br2.out.bl hb3)
  have Bf3 := Lib.hid (Bf2.out.bl hb3)
  have L3 := Lib.hid (bl L2.out hb3)
  clear cq0 cq1 cq2 cq3 rq0 rq1 rq2 rq3 fq0 fq1 fq2 fq3
  clear hb3 Bc2 Br2 Bf2 L2
  have cq0 := Bc3.out.cell 0
  have cq1 := Bc3.out.cell 1
  have cq2 := Bc3.out.cell 2
  have cq3 := Bc3.out.cell 3
  simp only [List.getElem?_toArray, List.getElem?_cons_succ, List.getElem?_cons_zero] at cq0 cq1 cq2 cq3
  have rq0 := Br3.out.cell 0
  have rq1 := Br3.out.cell 1
  have rq2 := Br3.out.cell 2
  have rq3 := Br3.out.cell 3
  simp only [List.getElem?_toArray, List.getElem?_cons_succ, List.getElem?_cons_zero] at rq0 rq1 rq2 rq3
  have fq0 := Bf3.out.cell 0
  have fq1 := Bf3.out.cell 1
  have fq2 := Bf3.out.cell 2
  have fq3 := Bf3.out.cell 3
  simp only [List.getElem?_toArray, List.getElem?_cons_succ, List.getElem?_cons_zero] at fq0 fq1 fq2 fq3
  have dge := Lib.hid (show w.heap.size ≤ wq3.heap.size from L3.out.size)
  have cn1 : ¬ w.heap.size = wq3.heap.size := by have := Bc3.out.lt; omega
  have cdne := Lib.hid cn1
  have cn2 : w.heap.size < wq3.heap.size := Bc3.out.lt
  have rn1 : ¬ (w.heap.size + 1) = wq3.heap.size := by have := Br3.out.lt; omega
  have rdne := Lib.hid rn1
  have rn2 : (w.heap.size + 1) < wq3.heap.size := Br3.out.lt
  have fn1 : ¬ gf = wq3.heap.size := by have := Bf3.out.lt; omega
  have fdne := Lib.hid fn1
  have fn2 : gf < wq3.heap.size := Bf3.out.lt
  have Ac3 := Lib.hid (Bc3.out.alloc (.cells #[.int .u64 0, .int .i64 0, .int .u64 0, .int .u64 0] 27))
  have Ar3 := Lib.hid (Br3.out.alloc (.cells #[.int .u64 0, .int .i64 0, .int .u64 0, .int .u64 0] 27))
  have Af3 := Lib.hid (Bf3.out.alloc (.cells #[.int .u64 0, .int .i64 0, .int .u64 0, .int .u64 0] 27))
  have Ad3 := Lib.hid (Blk.new wq3 27 #[.int .u64 0, .int .i64 0, .int .u64 0, .int .u64 0])
  have M3 := Lib.hid (L3.out.alloc L3.out.size (.cells #[.int .u64 0, .int .i64 0, .int .u64 0, .int .u64 0] 27))
  clear Bc3 Br3 Bf3 L3
  go_wp2_with fail
  refine (JT.out _).mono ?_; rintro e wq4 ⟨rfl, hb4⟩
  have Bc4 := Lib.hid (Ac3.out.bl hb4)
  have Br4 := Lib.hid (Ar3.out.bl hb4)
  have Bd4 := Lib.hid (Ad3.out.bl hb4)
  have L4 := Lib.hid (bl M3.out hb4)
  clear cq0 cq1 cq2 cq3 rq0 rq1 rq2 rq3 fq0 fq1 fq2 fq3 cn1 cn2 rn1 rn2 fn1 fn2
  clear hb4 Ac3 Ar3 Ad3 M3
  generalize wq3.heap.size = gd at *
  have cq0 := Bc4.out.cell 0
  have cq1 := Bc4.out.cell 1
  have cq2 := Bc4.out.cell 2
  have cq3 := Bc4.out.cell 3
  simp only [List.getElem?_toArray, List.getElem?_cons_succ, List.getElem?_cons_zero] at cq0 cq1 cq2 cq3
  have rq0 := Br4.out.cell 0
  have rq1 := Br4.out.cell 1
  have rq2 := Br4.out.cell 2
  have rq3 := Br4.out.cell 3
  simp only [List.getElem?_toArray, List.getElem?_cons_succ, List.getElem?_cons_zero] at rq0 rq1 rq2 rq3
  have dq0 := Bd4.out.cell 0
  have dq1 := Bd4.out.cell 1
  have dq2 := Bd4.out.cell 2
  have dq3 := Bd4.out.cell 3
  simp only [List.getElem?_toArray, List.getElem?_cons_succ, List.getElem?_cons_zero] at dq0 dq1 dq2 dq3
  have tge := Lib.hid (show w.heap.size ≤ wq4.heap.size from L4.out.size)
  have cn1 : ¬ w.heap.size = wq4.heap.size := by have := Bc4.out.lt; omega
  have ctne := Lib.hid cn1
  have cn2 : w.heap.size < wq4.heap.size := Bc4.out.lt
  have rn1 : ¬ (w.heap.size + 1) = wq4.heap.size := by have := Br4.out.lt; omega
  have rtne := Lib.hid rn1
  have rn2 : (w.heap.size + 1) < wq4.heap.size := Br4.out.lt
  have dn1 : ¬ gd = wq4.heap.size := by have := Bd4.out.lt; omega
  have dtne := Lib.hid dn1
  have dn2 : gd < wq4.heap.size := Bd4.out.lt
  have Ac4 := Lib.hid (Bc4.out.alloc (.cells #[.int .u64 0, .int .i64 0, .int .u64 0, .int .u64 0] 27))
  have Ar4 := Lib.hid (Br4.out.alloc (.cells #[.int .u64 0, .int .i64 0, .int .u64 0, .int .u64 0] 27))
  have Ad4 := Lib.hid (Bd4.out.alloc (.cells #[.int .u64 0, .int .i64 0, .int .u64 0, .int .u64 0] 27))
  have At4 := Lib.hid (Blk.new wq4 27 #[.int .u64 0, .int .i64 0, .int .u64 0, .int .u64 0])
  have M4 := Lib.hid (L4.out.alloc L4.out.size (.cells #[.int .u64 0, .int .i64 0, .int .u64 0, .int .u64 0] 27))
  clear Bc4 Br4 Bd4 L4
  go_wp2_with fail
  refine (JM.out _).mono ?_; rintro e wq5 ⟨rfl, hb5⟩
  have Bc5 := Lib.hid (Ac4.out.bl hb5)
  have Br5 := Lib.hid (Ar4.out.bl hb5)
  have Bd5 := Lib.hid (Ad4.out.bl hb5)
  have Bt5 := Lib.hid (At4.out.bl hb5)
  have L5 := Lib.hid (bl M4.out hb5)
  clear cq0 cq1 cq2 cq3 rq0 rq1 rq2 rq3 dq0 dq1 dq2 dq3 cn1 cn2 rn1 rn2 dn1 dn2
  clear hb5 Ac4 Ar4 Ad4 At4 M4
  generalize wq4.heap.size = gt at *
  have cq0 := Bc5.out.cell 0
  have cq1 := Bc5.out.cell 1
  have cq2 := Bc5.out.cell 2
  have cq3 := Bc5.out.cell 3
  simp only [List.getElem?_toArray, List.getElem?_cons_succ, List.getElem?_cons_zero] at cq0 cq1 cq2 cq3
  have rq0 := Br5.out.cell 0
  have rq1 := Br5.out.cell 1
  have rq2 := Br5.out.cell 2
  have rq3 := Br5.out.cell 3
  simp only [List.getElem?_toArray, List.getElem?_cons_succ, List.getElem?_cons_zero] at rq0 rq1 rq2 rq3
  have dq0 := Bd5.out.cell 0
  have dq1 := Bd5.out.cell 1
  have dq2 := Bd5.out.cell 2
  have dq3 := Bd5.out.cell 3
  simp only [List.getElem?_toArray, List.getElem?_cons_succ, List.getElem?_cons_zero] at dq0 dq1 dq2 dq3
  have tq0 := Bt5.out.cell 0
  have tq1 := Bt5.out.cell 1
  have tq2 := Bt5.out.cell 2
  have tq3 := Bt5.out.cell 3
  simp only [List.getElem?_toArray, List.getElem?_cons_succ, List.getElem?_cons_zero] at tq0 tq1 tq2 tq3
  go_wp2_with fail
  refine (JK.out _).mono ?_; rintro e wq6 ⟨rfl, hb6⟩
  have Bc6 := Lib.hid (Bc5.out.bl hb6)
  have Br6 := Lib.hid (Br5.out.bl hb6)
  have Bd6 := Lib.hid (Bd5.out.bl hb6)
  have Bt6 := Lib.hid (Bt5.out.bl hb6)
  have L6 := Lib.hid (bl L5.out hb6)
  clear cq0 cq1 cq2 cq3 rq0 rq1 rq2 rq3 dq0 dq1 dq2 dq3 tq0 tq1 tq2 tq3
  clear hb6 Bc5 Br5 Bd5 Bt5 L5
  have cq0 := Bc6.out.cell 0
  have cq1 := Bc6.out.cell 1
  have cq2 := Bc6.out.cell 2
  have cq3 := Bc6.out.cell 3
  simp only [List.getElem?_toArray, List.getElem?_cons_succ, List.getElem?_cons_zero] at cq0 cq1 cq2 cq3
  have rq0 := Br6.out.cell 0
  have rq1 := Br6.out.cell 1
  have rq2 := Br6.out.cell 2
  have rq3 := Br6.out.cell 3
  simp only [List.getElem?_toArray, List.getElem?_cons_succ, List.getElem?_cons_zero] at rq0 rq1 rq2 rq3
  have dq0 := Bd6.out.cell 0
  have dq1 := Bd6.out.cell 1
  have dq2 := Bd6.out.cell 2
  have dq3 := Bd6.out.cell 3
  simp only [List.getElem?_toArray, List.getElem?_cons_succ, List.getElem?_cons_zero] at dq0 dq1 dq2 dq3
  have tq0 := Bt6.out.cell 0
  have tq1 := Bt6.out.cell 1
  have tq2 := Bt6.out.cell 2
  have tq3 := Bt6.out.cell 3
  simp only [List.getElem?_toArray, List.getElem?_cons_succ, List.getElem?_cons_zero] at tq0 tq1 tq2 tq3
  go_wp2_with fail
  refine (awake_any _).mono ?_; rintro e wq7 ⟨rfl, hb7⟩
  have Bc7 := Lib.hid (Bc6.out.bl hb7)
  have Br7 := Lib.hid (Br6.out.bl hb7)
  have Bd7 := Lib.hid (Bd6.out.bl hb7)
  have Bt7 := Lib.hid (Bt6.out.bl hb7)
  have L7 := Lib.hid (bl L6.out hb7)
  clear cq0 cq1 cq2 cq3 rq0 rq1 rq2 rq3 dq0 dq1 dq2 dq3 tq0 tq1 tq2 tq3
  clear hb7 Bc6 Br6 Bd6 Bt6 L6
  have cq0 := Bc7.out.cell 0
  have cq1 := Bc7.out.cell 1
  have cq2 := Bc7.out.cell 2
  have cq3 := Bc7.out.cell 3
  simp only [List.getElem?_toArray, List.getElem?_cons_succ, List.getElem?_cons_zero] at cq0 cq1 cq2 cq3
  have rq0 := Br7.out.cell 0
  have rq1 := Br7.out.cell 1
  have rq2 := Br7.out.cell 2
  have rq3 := Br7.out.cell 3
  simp only [List.getElem?_toArray, List.getElem?_cons_succ, List.getElem?_cons_zero] at rq0 rq1 rq2 rq3
  have dq0 := Bd7.out.cell 0
  have dq1 := Bd7.out.cell 1
  have dq2 := Bd7.out.cell 2
  have dq3 := Bd7.out.cell 3
  simp only [List.getElem?_toArray, List.getElem?_cons_succ, List.getElem?_cons_zero] at dq0 dq1 dq2 dq3
  have tq0 := Bt7.out.cell 0
  have tq1 := Bt7.out.cell 1
  have tq2 := Bt7.out.cell 2
  have tq3 := Bt7.out.cell 3
  simp only [List.getElem?_toArray, List.getElem?_cons_succ, List.getElem?_cons_zero] at tq0 tq1 tq2 tq3
  go_wp2_with fail
  go_ret
  exact ⟨rfl, L7.out⟩

end Go.Proofs.Ythfkgbgbhjnpdaa.Queue
