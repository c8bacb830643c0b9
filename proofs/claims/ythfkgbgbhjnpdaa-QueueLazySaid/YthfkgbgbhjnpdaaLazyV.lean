/-
  QueueLazy: the walk where nothing is refused. Conditions stand at each. By an AI agent.
-/
import Derived.Test.YthfkgbgbhjnpdaaLazyP
import Derived.Deep.CutRange
namespace Go.Proofs.Ythfkgbgbhjnpdaa.Queue
set_option linter.unusedVariables false
set_option linter.unusedSimpArgs false
open Go Go.RowKit Go.Proofs.Ythfkgbgbhjnpdaa.Base

set_option maxRecDepth 100000 in
set_option maxHeartbeats 8000000 in
theorem lazy_whole (c : Cur) (a b lo hi : Int) (one two d : Cur) (n x te : Int) (hlh : (¬ a > b ∧ lo = a ∧ hi = b) ∨ (a > b ∧ hi = a ∧ lo = b)) (w : World)
    (HS1 : ∀ w, Calls Try.prog 15 #[c.val, .int .u64 lo] w fun e w' => e = .returned (.tuple #[one.val, .int .i64 0]) ∧ Below w.heap.size w w')
    (HS2 : ∀ w, Calls Try.prog 15 #[c.val, .int .u64 hi] w fun e w' => e = .returned (.tuple #[two.val, .int .i64 0]) ∧ Below w.heap.size w w') (HS3 : ∀ w, Calls Try.prog 15 #[one.val, .int .u64 hi] w fun e w' => e = .returned (.tuple #[two.val, .int .i64 0]) ∧ Below w.heap.size w w')
    (K1 : ∀ w, Calls Try.prog 16 #[one.val, .int .u64 hi] w fun e w' => e = .returned (.int .i64 n) ∧ Below w.heap.size w w') (K2 : ∀ w, Calls Try.prog 16 #[c.val, .int .u64 hi] w fun e w' => e = .returned (.int .i64 n) ∧ Below w.heap.size w w') (K3 : ∀ w, Calls Try.prog 16 #[two.val, .int .u64 hi] w fun e w' => e = .returned (.int .i64 n) ∧ Below w.heap.size w w')
    (T1 : ∀ w, Calls Try.prog 13 #[c.val, .int .u64 hi] w fun e w' => e = .returned (.tuple #[.int .u64 x, d.val, .int .i64 te]) ∧ Below w.heap.size w w') (T2 : ∀ w, Calls Try.prog 13 #[one.val, .int .u64 hi] w fun e w' => e = .returned (.tuple #[.int .u64 x, d.val, .int .i64 te]) ∧ Below w.heap.size w w') (T3 : ∀ w, Calls Try.prog 13 #[two.val, .int .u64 hi] w fun e w' => e = .returned (.tuple #[.int .u64 x, d.val, .int .i64 te]) ∧ Below w.heap.size w w') :
    Calls Try.prog 5 #[c.val, .int .u64 a, .int .u64 b] w fun e w' => e = .returned (.bool true) ∧ Below w.heap.size w w' := by
  have HA := Lib.hid HS1
  have HB := Lib.hid HS2
  have HC := Lib.hid HS3
  have HK1 := Lib.hid K1
  have HK2 := Lib.hid K2
  have HK3 := Lib.hid K3
  have HT1 := Lib.hid T1
  have HT2 := Lib.hid T2
  have HT3 := Lib.hid T3
  clear HS1 HS2 HS3 K1 K2 K3 T1 T2 T3
  have n1 : (n != n) = false := by simp
  have n2 : (te == te) = true := by simp
  have n3 : (x == x) = true := by simp
  rcases hlh with ⟨hab, e1, e2⟩ | ⟨hab, e1, e2⟩
  · have hab2 : decide (b < a) = false := decide_eq_false (by omega)
    subst e1 e2
    unfold Cur.val at *
    go_enter Try.func5, Try.ntmps5
    have B00 := Lib.hid (Blk.new w 27 #[.int .u64 c.next, .int .i64 c.cap, .int .u64 c.got, .int .u64 c.lost])
    have L0 := Lib.hid ((Below.refl w.heap.size w).alloc (Nat.le_refl _) (.cells #[.int .u64 c.next, .int .i64 c.cap, .int .u64 c.got, .int .u64 c.lost] 27))
    go_wp2_with fail
    refine (HA.out _).mono ?_; rintro e wq1 ⟨rfl, hb1⟩
    have Bc1 := Lib.hid (B00.out.bl hb1)
    have L1 := Lib.hid (bl L0.out hb1)
    clear hb1 B00 L0
    have cq0 := Bc1.out.cell 0
    have cq1 := Bc1.out.cell 1
    have cq2 := Bc1.out.cell 2
    have cq3 := Bc1.out.cell 3
    simp only [List.getElem?_toArray, List.getElem?_cons_succ, List.getElem?_cons_zero] at cq0 cq1 cq2 cq3
    have cn1 : ¬ w.heap.size = wq1.heap.size := by have := Bc1.out.lt; omega
    have cn2 : w.heap.size < wq1.heap.size := Bc1.out.lt
    have Ac1 := Lib.hid (Bc1.out.alloc (.cells #[.int .u64 one.next, .int .i64 one.cap, .int .u64 one.got, .int .u64 one.lost] 27))
    have Ao1 := Lib.hid (Blk.new wq1 27 #[.int .u64 one.next, .int .i64 one.cap, .int .u64 one.got, .int .u64 one.lost])
    have M1 := Lib.hid (L1.out.alloc L1.out.size (.cells #[.int .u64 one.next, .int .i64 one.cap, .int .u64 one.got, .int .u64 one.lost] 27))
    clear Bc1 L1
    go_wp2_with fail
    refine (HB.out _).mono ?_; rintro e wq2 ⟨rfl, hb2⟩
    have Bc2 := Lib.hid (Ac1.out.bl hb2)
    have Bo2 := Lib.hid (Ao1.out.bl hb2)
    have L2 := Lib.hid (bl M1.out hb2)
    clear cq0 cq1 cq2 cq3 cn1 cn2
    clear hb2 Ac1 Ao1 M1
    generalize wq1.heap.size = go at *
    have cq0 := Bc2.out.cell 0
    have cq1 := Bc2.out.cell 1
    have cq2 := Bc2.out.cell 2
    have cq3 := Bc2.out.cell 3
    simp only [List.getElem?_toArray, List.getElem?_cons_succ, List.getElem?_cons_zero] at cq0 cq1 cq2 cq3
    have oq0 := Bo2.out.cell 0
    have oq1 := Bo2.out.cell 1
    have oq2 := Bo2.out.cell 2
    have oq3 := Bo2.out.cell 3
    simp only [List.getElem?_toArray, List.getElem?_cons_succ, List.getElem?_cons_zero] at oq0 oq1 oq2 oq3
    have cn1 : ¬ w.heap.size = wq2.heap.size := by have := Bc2.out.lt; omega
    have cn2 : w.heap.size < wq2.heap.size := Bc2.out.lt
    have on1 : ¬ go = wq2.heap.size := by have := Bo2.out.lt; omega
    have on2 : go < wq2.heap.size := Bo2.out.lt
    have Ac2 := Lib.hid (Bc2.out.alloc (.cells #[.int .u64 two.next, .int .i64 two.cap, .int .u64 two.got, .int .u64 two.lost] 27))
    have Ao2 := Lib.hid (Bo2.out.alloc (.cells #[.int .u64 two.next, .int .i64 two.cap, .int .u64 two.got, .int .u64 two.lost] 27))
    have At2 := Lib.hid (Blk.new wq2 27 #[.int .u64 two.next, .int .i64 two.cap, .int .u64 two.got, .int .u64 two.lost])
    have M2 := Lib.hid (L2.out.alloc L2.out.size (.cells #[.int .u64 two.next, .int .i64 two.cap, .int .u64 two.got, .int .u64 two.lost] 27))
    clear Bc2 Bo2 L2
    go_wp2_with fail
    refine (HC.out _).mono ?_; rintro e wq3 ⟨rfl, hb3⟩
    have Bc3 := Lib.hid (Ac2.out.bl hb3)
    have Bo3 := Lib.hid (Ao2.out.bl hb3)
    have Bt3 := Lib.hid (At2.out.bl hb3)
    have L3 := Lib.hid (bl M2.out hb3)
    clear cq0 cq1 cq2 cq3 oq0 oq1 oq2 oq3 cn1 cn2 on1 on2
    clear hb3 Ac2 Ao2 At2 M2
    generalize wq2.heap.size = gt at *
    have cq0 := Bc3.out.cell 0
    have cq1 := Bc3.out.cell 1
    have cq2 := Bc3.out.cell 2
    have cq3 := Bc3.out.cell 3
    simp only [List.getElem?_toArray, List.getElem?_cons_succ, List.getElem?_cons_zero] at cq0 cq1 cq2 cq3
    have oq0 := Bo3.out.cell 0
    have oq1 := Bo3.out.cell 1
    have oq2 := Bo3.out.cell 2
    have oq3 := Bo3.out.cell 3
    simp only [List.getElem?_toArray, List.getElem?_cons_succ, List.getElem?_cons_zero] at oq0 oq1 oq2 oq3
    have tq0 := Bt3.out.cell 0
    have tq1 := Bt3.out.cell 1
    have tq2 := Bt3.out.cell 2
    have tq3 := Bt3.out.cell 3
    simp only [List.getElem?_toArray, List.getElem?_cons_succ, List.getElem?_cons_zero] at tq0 tq1 tq2 tq3
    have cn1 : ¬ w.heap.size = wq3.heap.size := by have := Bc3.out.lt; omega
    have cn2 : w.heap.size < wq3.heap.size := Bc3.out.lt
    have on1 : ¬ go = wq3.heap.size := by have := Bo3.out.lt; omega
    have on2 : go < wq3.heap.size := Bo3.out.lt
    have tn1 : ¬ gt = wq3.heap.size := by have := Bt3.out.lt; omega
    have tn2 : gt < wq3.heap.size := Bt3.out.lt
    have Ac3 := Lib.hid (Bc3.out.alloc (.cells #[.int .u64 two.next, .int .i64 two.cap, .int .u64 two.got, .int .u64 two.lost] 27))
    have Ao3 := Lib.hid (Bo3.out.alloc (.cells #[.int .u64 two.next, .int .i64 two.cap, .int .u64 two.got, .int .u64 two.lost] 27))
    have At3 := Lib.hid (Bt3.out.alloc (.cells #[.int .u64 two.next, .int .i64 two.cap, .int .u64 two.got, .int .u64 two.lost] 27))
    have Ah3 := Lib.hid (Blk.new wq3 27 #[.int .u64 two.next, .int .i64 two.cap, .int .u64 two.got, .int .u64 two.lost])
    have M3 := Lib.hid (L3.out.alloc L3.out.size (.cells #[.int .u64 two.next, .int .i64 two.cap, .int .u64 two.got, .int .u64 two.lost] 27))
    clear Bc3 Bo3 Bt3 L3
    go_upto_region 8 with fail
    have hst : Three w w.heap.size #[.int .u64 c.next, .int .i64 c.cap, .int .u64 c.got, .int .u64 c.lost] go #[.int .u64 one.next, .int .i64 one.cap, .int .u64 one.got, .int .u64 one.lost] gt #[.int .u64 two.next, .int .i64 two.cap, .int .u64 two.got, .int .u64 two.lost] wq3.heap.size #[.int .u64 two.next, .int .i64 two.cap, .int .u64 two.got, .int .u64 two.lost] (wq3.alloc (.cells #[.int .u64 two.next, .int .i64 two.cap, .int .u64 two.got, .int .u64 two.lost] 27)) := ⟨Ac3.out, Ao3.out, At3.out, Ah3.out, M3.out⟩
    clear cq0 cq1 cq2 cq3 oq0 oq1 oq2 oq3 tq0 tq1 tq2 tq3 cn1 cn2 on1 on2 tn1 tn2
    clear Ac3 Ao3 At3 Ah3 M3
    generalize wq3.heap.size = gh at *
    generalize hgw : wq3.alloc (.cells #[.int .u64 two.next, .int .i64 two.cap, .int .u64 two.got, .int .u64 two.lost] 27) = wz at *
    clear hgw
    have hnonempty : Nonempty (Held (Three w w.heap.size #[.int .u64 c.next, .int .i64 c.cap, .int .u64 c.got, .int .u64 c.lost] go #[.int .u64 one.next, .int .i64 one.cap, .int .u64 one.got, .int .u64 one.lost] gt #[.int .u64 two.next, .int .i64 two.cap, .int .u64 two.got, .int .u64 two.lost] gh #[.int .u64 two.next, .int .i64 two.cap, .int .u64 two.got, .int .u64 two.lost])) := ⟨⟨wz, hst⟩⟩
    have cm0 : ∀ x : Held (Three w w.heap.size #[.int .u64 c.next, .int .i64 c.cap, .int .u64 c.got, .int .u64 c.lost] go #[.int .u64 one.next, .int .i64 one.cap, .int .u64 one.got, .int .u64 one.lost] gt #[.int .u64 two.next, .int .i64 two.cap, .int .u64 two.got, .int .u64 two.lost] gh #[.int .u64 two.next, .int .i64 two.cap, .int .u64 two.got, .int .u64 two.lost]), x.w.cell? ⟨w.heap.size, 0, none⟩ = some (.int .u64 c.next) := fun x => x.ok.x.cell 0
    have cm1 : ∀ x : Held (Three w w.heap.size #[.int .u64 c.next, .int .i64 c.cap, .int .u64 c.got, .int .u64 c.lost] go #[.int .u64 one.next, .int .i64 one.cap, .int .u64 one.got, .int .u64 one.lost] gt #[.int .u64 two.next, .int .i64 two.cap, .int .u64 two.got, .int .u64 two.lost] gh #[.int .u64 two.next, .int .i64 two.cap, .int .u64 two.got, .int .u64 two.lost]), x.w.cell? ⟨w.heap.size, 1, none⟩ = some (.int .i64 c.cap) := fun x => x.ok.x.cell 1
    have cm2 : ∀ x : Held (Three w w.heap.size #[.int .u64 c.next, .int .i64 c.cap, .int .u64 c.got, .int .u64 c.lost] go #[.int .u64 one.next, .int .i64 one.cap, .int .u64 one.got, .int .u64 one.lost] gt #[.int .u64 two.next, .int .i64 two.cap, .int .u64 two.got, .int .u64 two.lost] gh #[.int .u64 two.next, .int .i64 two.cap, .int .u64 two.got, .int .u64 two.lost]), x.w.cell? ⟨w.heap.size, 2, none⟩ = some (.int .u64 c.got) := fun x => x.ok.x.cell 2
    have cm3 : ∀ x : Held (Three w w.heap.size #[.int .u64 c.next, .int .i64 c.cap, .int .u64 c.got, .int .u64 c.lost] go #[.int .u64 one.next, .int .i64 one.cap, .int .u64 one.got, .int .u64 one.lost] gt #[.int .u64 two.next, .int .i64 two.cap, .int .u64 two.got, .int .u64 two.lost] gh #[.int .u64 two.next, .int .i64 two.cap, .int .u64 two.got, .int .u64 two.lost]), x.w.cell? ⟨w.heap.size, 3, none⟩ = some (.int .u64 c.lost) := fun x => x.ok.x.cell 3
    have om0 : ∀ x : Held (Three w w.heap.size #[.int .u64 c.next, .int .i64 c.cap, .int .u64 c.got, .int .u64 c.lost] go #[.int .u64 one.next, .int .i64 one.cap, .int .u64 one.got, .int .u64 one.lost] gt #[.int .u64 two.next, .int .i64 two.cap, .int .u64 two.got, .int .u64 two.lost] gh #[.int .u64 two.next, .int .i64 two.cap, .int .u64 two.got, .int .u64 two.lost]), x.w.cell? ⟨go, 0, none⟩ = some (.int .u64 one.next) := fun x => x.ok.y.cell 0
    have om1 : ∀ x : Held (Three w w.heap.size #[.int .u64 c.next, .int .i64 c.cap, .int .u64 c.got, .int .u64 c.lost] go #[.int .u64 one.next, .int .i64 one.cap, .int .u64 one.got, .int .u64 one.lost] gt #[.int .u64 two.next, .int .i64 two.cap, .int .u64 two.got, .int .u64 two.lost] gh #[.int .u64 two.next, .int .i64 two.cap, .int .u64 two.got, .int .u64 two.lost]), x.w.cell? ⟨go, 1, none⟩ = some (.int .i64 one.cap) := fun x => x.ok.y.cell 1
    have om2 : ∀ x : Held (Three w w.heap.size #[.int .u64 c.next, .int .i64 c.cap, .int .u64 c.got, .int .u64 c.lost] go #[.int .u64 one.next, .int .i64 one.cap, .int .u64 one.got, .int .u64 one.lost] gt #[.int .u64 two.next, .int .i64 two.cap, .int .u64 two.got, .int .u64 two.lost] gh #[.int .u64 two.next, .int .i64 two.cap, .int .u64 two.got, .int .u64 two.lost]), x.w.cell? ⟨go, 2, none⟩ = some (.int .u64 one.got) := fun x => x.ok.y.cell 2
    have om3 : ∀ x : Held (Three w w.heap.size #[.int .u64 c.next, .int .i64 c.cap, .int .u64 c.got, .int .u64 c.lost] go #[.int .u64 one.next, .int .i64 one.cap, .int .u64 one.got, .int .u64 one.lost] gt #[.int .u64 two.next, .int .i64 two.cap, .int .u64 two.got, .int .u64 two.lost] gh #[.int .u64 two.next, .int .i64 two.cap, .int .u64 two.got, .int .u64 two.lost]), x.w.cell? ⟨go, 3, none⟩ = some (.int .u64 one.lost) := fun x => x.ok.y.cell 3
    have tm0 : ∀ x : Held (Three w w.heap.size #[.int .u64 c.next, .int .i64 c.cap, .int .u64 c.got, .int .u64 c.lost] go #[.int .u64 one.next, .int .i64 one.cap, .int .u64 one.got, .int .u64 one.lost] gt #[.int .u64 two.next, .int .i64 two.cap, .int .u64 two.got, .int .u64 two.lost] gh #[.int .u64 two.next, .int .i64 two.cap, .int .u64 two.got, .int .u64 two.lost]), x.w.cell? ⟨gt, 0, none⟩ = some (.int .u64 two.next) := fun x => x.ok.z.cell 0
    have tm1 : ∀ x : Held (Three w w.heap.size #[.int .u64 c.next, .int .i64 c.cap, .int .u64 c.got, .int .u64 c.lost] go #[.int .u64 one.next, .int .i64 one.cap, .int .u64 one.got, .int .u64 one.lost] gt #[.int .u64 two.next, .int .i64 two.cap, .int .u64 two.got, .int .u64 two.lost] gh #[.int .u64 two.next, .int .i64 two.cap, .int .u64 two.got, .int .u64 two.lost]), x.w.cell? ⟨gt, 1, none⟩ = some (.int .i64 two.cap) := fun x => x.ok.z.cell 1
    have tm2 : ∀ x : Held (Three w w.heap.size #[.int .u64 c.next, .int .i64 c.cap, .int .u64 c.got, .int .u64 c.lost] go #[.int .u64 one.next, .int .i64 one.cap, .int .u64 one.got, .int .u64 one.lost] gt #[.int .u64 two.next, .int .i64 two.cap, .int .u64 two.got, .int .u64 two.lost] gh #[.int .u64 two.next, .int .i64 two.cap, .int .u64 two.got, .int .u64 two.lost]), x.w.cell? ⟨gt, 2, none⟩ = some (.int .u64 two.got) := fun x => x.ok.z.cell 2
    have tm3 : ∀ x : Held (Three w w.heap.size #[.int .u64 c.next, .int .i64 c.cap, .int .u64 c.got, .int .u64 c.lost] go #[.int .u64 one.next, .int .i64 one.cap, .int .u64 one.got, .int .u64 one.lost] gt #[.int .u64 two.next, .int .i64 two.cap, .int .u64 two.got, .int .u64 two.lost] gh #[.int .u64 two.next, .int .i64 two.cap, .int .u64 two.got, .int .u64 two.lost]), x.w.cell? ⟨gt, 3, none⟩ = some (.int .u64 two.lost) := fun x => x.ok.z.cell 3
    have hm0 : ∀ x : Held (Three w w.heap.size #[.int .u64 c.next, .int .i64 c.cap, .int .u64 c.got, .int .u64 c.lost] go #[.int .u64 one.next, .int .i64 one.cap, .int .u64 one.got, .int .u64 one.lost] gt #[.int .u64 two.next, .int .i64 two.cap, .int .u64 two.got, .int .u64 two.lost] gh #[.int .u64 two.next, .int .i64 two.cap, .int .u64 two.got, .int .u64 two.lost]), x.w.cell? ⟨gh, 0, none⟩ = some (.int .u64 two.next) := fun x => x.ok.u.cell 0
    have hm1 : ∀ x : Held (Three w w.heap.size #[.int .u64 c.next, .int .i64 c.cap, .int .u64 c.got, .int .u64 c.lost] go #[.int .u64 one.next, .int .i64 one.cap, .int .u64 one.got, .int .u64 one.lost] gt #[.int .u64 two.next, .int .i64 two.cap, .int .u64 two.got, .int .u64 two.lost] gh #[.int .u64 two.next, .int .i64 two.cap, .int .u64 two.got, .int .u64 two.lost]), x.w.cell? ⟨gh, 1, none⟩ = some (.int .i64 two.cap) := fun x => x.ok.u.cell 1
    have hm2 : ∀ x : Held (Three w w.heap.size #[.int .u64 c.next, .int .i64 c.cap, .int .u64 c.got, .int .u64 c.lost] go #[.int .u64 one.next, .int .i64 one.cap, .int .u64 one.got, .int .u64 one.lost] gt #[.int .u64 two.next, .int .i64 two.cap, .int .u64 two.got, .int .u64 two.lost] gh #[.int .u64 two.next, .int .i64 two.cap, .int .u64 two.got, .int .u64 two.lost]), x.w.cell? ⟨gh, 2, none⟩ = some (.int .u64 two.got) := fun x => x.ok.u.cell 2
    have hm3 : ∀ x : Held (Three w w.heap.size #[.int .u64 c.next, .int .i64 c.cap, .int .u64 c.got, .int .u64 c.lost] go #[.int .u64 one.next, .int .i64 one.cap, .int .u64 one.got, .int .u64 one.lost] gt #[.int .u64 two.next, .int .i64 two.cap, .int .u64 two.got, .int .u64 two.lost] gh #[.int .u64 two.next, .int .i64 two.cap, .int .u64 two.got, .int .u64 two.lost]), x.w.cell? ⟨gh, 3, none⟩ = some (.int .u64 two.lost) := fun x => x.ok.u.cell 3
    have HK1h := Lib.hid (show ∀ W, Three w w.heap.size #[.int .u64 c.next, .int .i64 c.cap, .int .u64 c.got, .int .u64 c.lost] go #[.int .u64 one.next, .int .i64 one.cap, .int .u64 one.got, .int .u64 one.lost] gt #[.int .u64 two.next, .int .i64 two.cap, .int .u64 two.got, .int .u64 two.lost] gh #[.int .u64 two.next, .int .i64 two.cap, .int .u64 two.got, .int .u64 two.lost] W → Calls Try.prog 16 #[.agg #[.int .u64 one.next, .int .i64 one.cap, .int .u64 one.got, .int .u64 one.lost], .int .u64 hi] W fun e w' => e = .returned (.int .i64 n) ∧ Three w w.heap.size #[.int .u64 c.next, .int .i64 c.cap, .int .u64 c.got, .int .u64 c.lost] go #[.int .u64 one.next, .int .i64 one.cap, .int .u64 one.got, .int .u64 one.lost] gt #[.int .u64 two.next, .int .i64 two.cap, .int .u64 two.got, .int .u64 two.lost] gh #[.int .u64 two.next, .int .i64 two.cap, .int .u64 two.got, .int .u64 two.lost] w' from fun W hW => (HK1.out W).mono fun _ _ ⟨he, hb⟩ => ⟨he, hW.bl hb⟩)
    have HK2h := Lib.hid (show ∀ W, Three w w.heap.size #[.int .u64 c.next, .int .i64 c.cap, .int .u64 c.got, .int .u64 c.lost] go #[.int .u64 one.next, .int .i64 one.cap, .int .u64 one.got, .int .u64 one.lost] gt #[.int .u64 two.next, .int .i64 two.cap, .int .u64 two.got, .int .u64 two.lost] gh #[.int .u64 two.next, .int .i64 two.cap, .int .u64 two.got, .int .u64 two.lost] W → Calls Try.prog 16 #[.agg #[.int .u64 c.next, .int .i64 c.cap, .int .u64 c.got, .int .u64 c.lost], .int .u64 hi] W fun e w' => e = .returned (.int .i64 n) ∧ Three w w.heap.size #[.int .u64 c.next, .int .i64 c.cap, .int .u64 c.got, .int .u64 c.lost] go #[.int .u64 one.next, .int .i64 one.cap, .int .u64 one.got, .int .u64 one.lost] gt #[.int .u64 two.next, .int .i64 two.cap, .int .u64 two.got, .int .u64 two.lost] gh #[.int .u64 two.next, .int .i64 two.cap, .int .u64 two.got, .int .u64 two.lost] w' from fun W hW => (HK2.out W).mono fun _ _ ⟨he, hb⟩ => ⟨he, hW.bl hb⟩)
    have HK3h := Lib.hid (show ∀ W, Three w w.heap.size #[.int .u64 c.next, .int .i64 c.cap, .int .u64 c.got, .int .u64 c.lost] go #[.int .u64 one.next, .int .i64 one.cap, .int .u64 one.got, .int .u64 one.lost] gt #[.int .u64 two.next, .int .i64 two.cap, .int .u64 two.got, .int .u64 two.lost] gh #[.int .u64 two.next, .int .i64 two.cap, .int .u64 two.got, .int .u64 two.lost] W → Calls Try.prog 16 #[.agg #[.int .u64 two.next, .int .i64 two.cap, .int .u64 two.got, .int .u64 two.lost], .int .u64 hi] W fun e w' => e = .returned (.int .i64 n) ∧ Three w w.heap.size #[.int .u64 c.next, .int .i64 c.cap, .int .u64 c.got, .int .u64 c.lost] go #[.int .u64 one.next, .int .i64 one.cap, .int .u64 one.got, .int .u64 one.lost] gt #[.int .u64 two.next, .int .i64 two.cap, .int .u64 two.got, .int .u64 two.lost] gh #[.int .u64 two.next, .int .i64 two.cap, .int .u64 two.got, .int .u64 two.lost] w' from fun W hW => (HK3.out W).mono fun _ _ ⟨he, hb⟩ => ⟨he, hW.bl hb⟩)
    refine drawn_held (S := Three w w.heap.size #[.int .u64 c.next, .int .i64 c.cap, .int .u64 c.got, .int .u64 c.lost] go #[.int .u64 one.next, .int .i64 one.cap, .int .u64 one.got, .int .u64 one.lost] gt #[.int .u64 two.next, .int .i64 two.cap, .int .u64 two.got, .int .u64 two.lost] gh #[.int .u64 two.next, .int .i64 two.cap, .int .u64 two.got, .int .u64 two.lost]) (by kernel_rfl) (by kernel_rfl) ⟨hst.x, hst.y, hst.z, hst.u, hst.below.drew⟩ ?_
    repeat (go_big_quiet_step (first | (go_at_call_of 16 one.next; exact held_call HK1h.out) | (go_at_call_of 16 c.next; exact held_call HK2h.out) | (go_at_call_of 16 two.next; exact held_call HK3h.out)))
    refine wpQuiet_nil ?_
    intro w7 hw'; obtain ⟨⟨w7', hb7⟩, hw''⟩ := hw'; dsimp only at hw''; subst hw''
    have Bcz := Lib.hid hb7.x
    have Boz := Lib.hid hb7.y
    have Btz := Lib.hid hb7.z
    have Lz := Lib.hid hb7.below
    clear hb7 hst hnonempty HK1h HK2h HK3h cm0 cm1 cm2 cm3 om0 om1 om2 om3 tm0 tm1 tm2 tm3 hm0 hm1 hm2 hm3
    have cq0 := Bcz.out.cell 0
    have cq1 := Bcz.out.cell 1
    have cq2 := Bcz.out.cell 2
    have cq3 := Bcz.out.cell 3
    simp only [List.getElem?_toArray, List.getElem?_cons_succ, List.getElem?_cons_zero] at cq0 cq1 cq2 cq3
    have oq0 := Boz.out.cell 0
    have oq1 := Boz.out.cell 1
    have oq2 := Boz.out.cell 2
    have oq3 := Boz.out.cell 3
    simp only [List.getElem?_toArray, List.getElem?_cons_succ, List.getElem?_cons_zero] at oq0 oq1 oq2 oq3
    have tq0 := Btz.out.cell 0
    have tq1 := Btz.out.cell 1
    have tq2 := Btz.out.cell 2
    have tq3 := Btz.out.cell 3
    simp only [List.getElem?_toArray, List.getElem?_cons_succ, List.getElem?_cons_zero] at tq0 tq1 tq2 tq3
    go_wp2_with fail
    refine (HT1.out _).mono ?_; rintro e wq4 ⟨rfl, hb4⟩
    have Bc4 := Lib.hid (Bcz.out.bl hb4)
    have Bo4 := Lib.hid (Boz.out.bl hb4)
    have Bt4 := Lib.hid (Btz.out.bl hb4)
    have L4 := Lib.hid (bl Lz.out hb4)
    clear cq0 cq1 cq2 cq3 oq0 oq1 oq2 oq3 tq0 tq1 tq2 tq3
    clear hb4 Bcz Boz Btz Lz
    have cq0 := Bc4.out.cell 0
    have cq1 := Bc4.out.cell 1
    have cq2 := Bc4.out.cell 2
    have cq3 := Bc4.out.cell 3
    simp only [List.getElem?_toArray, List.getElem?_cons_succ, List.getElem?_cons_zero] at cq0 cq1 cq2 cq3
    have oq0 := Bo4.out.cell 0
    have oq1 := Bo4.out.cell 1
    have oq2 := Bo4.out.cell 2
    have oq3 := Bo4.out.cell 3
    simp only [List.getElem?_toArray, List.getElem?_cons_succ, List.getElem?_cons_zero] at oq0 oq1 oq2 oq3
    have tq0 := Bt4.out.cell 0
    have tq1 := Bt4.out.cell 1
    have tq2 := Bt4.out.cell 2
    have tq3 := Bt4.out.cell 3
    simp only [List.getElem?_toArray, List.getElem?_cons_succ, List.getElem?_cons_zero] at tq0 tq1 tq2 tq3
    have cn1 : ¬ w.heap.size = wq4.heap.size := by have := Bc4.out.lt; omega
    have cn2 : w.heap.size < wq4.heap.size := Bc4.out.lt
    have on1 : ¬ go = wq4.heap.size := by have := Bo4.out.lt; omega
    have on2 : go < wq4.heap.size := Bo4.out.lt
    have tn1 : ¬ gt = wq4.heap.size := by have := Bt4.out.lt; omega
    have tn2 : gt < wq4.heap.size := Bt4.out.lt
    have Ac4 := Lib.hid (Bc4.out.alloc (.cells #[.int .u64 d.next, .int .i64 d.cap, .int .u64 d.got, .int .u64 d.lost] 27))
    have Ao4 := Lib.hid (Bo4.out.alloc (.cells #[.int .u64 d.next, .int .i64 d.cap, .int .u64 d.got, .int .u64 d.lost] 27))
    have At4 := Lib.hid (Bt4.out.alloc (.cells #[.int .u64 d.next, .int .i64 d.cap, .int .u64 d.got, .int .u64 d.lost] 27))
    have Ad4 := Lib.hid (Blk.new wq4 27 #[.int .u64 d.next, .int .i64 d.cap, .int .u64 d.got, .int .u64 d.lost])
    have M4 := Lib.hid (L4.out.alloc L4.out.size (.cells #[.int .u64 d.next, .int .i64 d.cap, .int .u64 d.got, .int .u64 d.lost] 27))
    clear Bc4 Bo4 Bt4 L4
    go_wp2_with fail
    refine (HT2.out _).mono ?_; rintro e wq5 ⟨rfl, hb5⟩
    have Bc5 := Lib.hid (Ac4.out.bl hb5)
    have Bo5 := Lib.hid (Ao4.out.bl hb5)
    have Bt5 := Lib.hid (At4.out.bl hb5)
    have Bd5 := Lib.hid (Ad4.out.bl hb5)
    have L5 := Lib.hid (bl M4.out hb5)
    clear cq0 cq1 cq2 cq3 oq0 oq1 oq2 oq3 tq0 tq1 tq2 tq3 cn1 cn2 on1 on2 tn1 tn2
    clear hb5 Ac4 Ao4 At4 Ad4 M4
    generalize wq4.heap.size = gd at *
    have cq0 := Bc5.out.cell 0
    have cq1 := Bc5.out.cell 1
    have cq2 := Bc5.out.cell 2
    have cq3 := Bc5.out.cell 3
    simp only [List.getElem?_toArray, List.getElem?_cons_succ, List.getElem?_cons_zero] at cq0 cq1 cq2 cq3
    have oq0 := Bo5.out.cell 0
    have oq1 := Bo5.out.cell 1
    have oq2 := Bo5.out.cell 2
    have oq3 := Bo5.out.cell 3
    simp only [List.getElem?_toArray, List.getElem?_cons_succ, List.getElem?_cons_zero] at oq0 oq1 oq2 oq3
    have tq0 := Bt5.out.cell 0
    have tq1 := Bt5.out.cell 1
    have tq2 := Bt5.out.cell 2
    have tq3 := Bt5.out.cell 3
    simp only [List.getElem?_toArray, List.getElem?_cons_succ, List.getElem?_cons_zero] at tq0 tq1 tq2 tq3
    have dq0 := Bd5.out.cell 0
    have dq1 := Bd5.out.cell 1
    have dq2 := Bd5.out.cell 2
    have dq3 := Bd5.out.cell 3
    simp only [List.getElem?_toArray, List.getElem?_cons_succ, List.getElem?_cons_zero] at dq0 dq1 dq2 dq3
    have cn1 : ¬ w.heap.size = wq5.heap.size := by have := Bc5.out.lt; omega
    have cn2 : w.heap.size < wq5.heap.size := Bc5.out.lt
    have on1 : ¬ go = wq5.heap.size := by have := Bo5.out.lt; omega
    have on2 : go < wq5.heap.size := Bo5.out.lt
    have tn1 : ¬ gt = wq5.heap.size := by have := Bt5.out.lt; omega
    have tn2 : gt < wq5.heap.size := Bt5.out.lt
    have dn1 : ¬ gd = wq5.heap.size := by have := Bd5.out.lt; omega
    have dn2 : gd < wq5.heap.size := Bd5.out.lt
    have Ac5 := Lib.hid (Bc5.out.alloc (.cells #[.int .u64 d.next, .int .i64 d.cap, .int .u64 d.got, .int .u64 d.lost] 27))
    have Ao5 := Lib.hid (Bo5.out.alloc (.cells #[.int .u64 d.next, .int .i64 d.cap, .int .u64 d.got, .int .u64 d.lost] 27))
    have At5 := Lib.hid (Bt5.out.alloc (.cells #[.int .u64 d.next, .int .i64 d.cap, .int .u64 d.got, .int .u64 d.lost] 27))
    have Ad5 := Lib.hid (Bd5.out.alloc (.cells #[.int .u64 d.next, .int .i64 d.cap, .int .u64 d.got, .int .u64 d.lost] 27))
    have Af5 := Lib.hid (Blk.new wq5 27 #[.int .u64 d.next, .int .i64 d.cap, .int .u64 d.got, .int .u64 d.lost])
    have M5 := Lib.hid (L5.out.alloc L5.out.size (.cells #[.int .u64 d.next, .int .i64 d.cap, .int .u64 d.got, .int .u64 d.lost] 27))
    clear Bc5 Bo5 Bt5 Bd5 L5
    go_wp2_with fail
    refine (HT3.out _).mono ?_; rintro e wq6 ⟨rfl, hb6⟩
    have Bc6 := Lib.hid (Ac5.out.bl hb6)
    have Bo6 := Lib.hid (Ao5.out.bl hb6)
    have Bt6 := Lib.hid (At5.out.bl hb6)
    have Bd6 := Lib.hid (Ad5.out.bl hb6)
    have Bf6 := Lib.hid (Af5.out.bl hb6)
    have L6 := Lib.hid (bl M5.out hb6)
    clear cq0 cq1 cq2 cq3 oq0 oq1 oq2 oq3 tq0 tq1 tq2 tq3 dq0 dq1 dq2 dq3 cn1 cn2 on1 on2 tn1 tn2 dn1 dn2
    clear hb6 Ac5 Ao5 At5 Ad5 Af5 M5
    generalize wq5.heap.size = gf at *
    have cq0 := Bc6.out.cell 0
    have cq1 := Bc6.out.cell 1
    have cq2 := Bc6.out.cell 2
    have cq3 := Bc6.out.cell 3
    simp only [List.getElem?_toArray, List.getElem?_cons_succ, List.getElem?_cons_zero] at cq0 cq1 cq2 cq3
    have oq0 := Bo6.out.cell 0
    have oq1 := Bo6.out.cell 1
    have oq2 := Bo6.out.cell 2
    have oq3 := Bo6.out.cell 3
    simp only [List.getElem?_toArray, List.getElem?_cons_succ, List.getElem?_cons_zero] at oq0 oq1 oq2 oq3
    have tq0 := Bt6.out.cell 0
    have tq1 := Bt6.out.cell 1
    have tq2 := Bt6.out.cell 2
    have tq3 := Bt6.out.cell 3
    simp only [List.getElem?_toArray, List.getElem?_cons_succ, List.getElem?_cons_zero] at tq0 tq1 tq2 tq3
    have dq0 := Bd6.out.cell 0
    have dq1 := Bd6.out.cell 1
    have dq2 := Bd6.out.cell 2
    have dq3 := Bd6.out.cell 3
    simp only [List.getElem?_toArray, List.getElem?_cons_succ, List.getElem?_cons_zero] at dq0 dq1 dq2 dq3
    have fq0 := Bf6.out.cell 0
    have fq1 := Bf6.out.cell 1
    have fq2 := Bf6.out.cell 2
    have fq3 := Bf6.out.cell 3
    simp only [List.getElem?_toArray, List.getElem?_cons_succ, List.getElem?_cons_zero] at fq0 fq1 fq2 fq3
    have cn1 : ¬ w.heap.size = wq6.heap.size := by have := Bc6.out.lt; omega
    have cn2 : w.heap.size < wq6.heap.size := Bc6.out.lt
    have on1 : ¬ go = wq6.heap.size := by have := Bo6.out.lt; omega
    have on2 : go < wq6.heap.size := Bo6.out.lt
    have tn1 : ¬ gt = wq6.heap.size := by have := Bt6.out.lt; omega
    have tn2 : gt < wq6.heap.size := Bt6.out.lt
    have dn1 : ¬ gd = wq6.heap.size := by have := Bd6.out.lt; omega
    have dn2 : gd < wq6.heap.size := Bd6.out.lt
    have fn1 : ¬ gf = wq6.heap.size := by have := Bf6.out.lt; omega
    have fn2 : gf < wq6.heap.size := Bf6.out.lt
    have Ac6 := Lib.hid (Bc6.out.alloc (.cells #[.int .u64 d.next, .int .i64 d.cap, .int .u64 d.got, .int .u64 d.lost] 27))
    have Ao6 := Lib.hid (Bo6.out.alloc (.cells #[.int .u64 d.next, .int .i64 d.cap, .int .u64 d.got, .int .u64 d.lost] 27))
    have At6 := Lib.hid (Bt6.out.alloc (.cells #[.int .u64 d.next, .int .i64 d.cap, .int .u64 d.got, .int .u64 d.lost] 27))
    have Ad6 := Lib.hid (Bd6.out.alloc (.cells #[.int .u64 d.next, .int .i64 d.cap, .int .u64 d.got, .int .u64 d.lost] 27))
    have Af6 := Lib.hid (Bf6.out.alloc (.cells #[.int .u64 d.next, .int .i64 d.cap, .int .u64 d.got, .int .u64 d.lost] 27))
    have Ai6 := Lib.hid (Blk.new wq6 27 #[.int .u64 d.next, .int .i64 d.cap, .int .u64 d.got, .int .u64 d.lost])
    have M6 := Lib.hid (L6.out.alloc L6.out.size (.cells #[.int .u64 d.next, .int .i64 d.cap, .int .u64 d.got, .int .u64 d.lost] 27))
    clear Bc6 Bo6 Bt6 Bd6 Bf6 L6
    go_wp2_with fail
    refine (awake_any _).mono ?_; rintro e wq7 ⟨rfl, hb7⟩
    have Bc7 := Lib.hid (Ac6.out.bl hb7)
    have Bo7 := Lib.hid (Ao6.out.bl hb7)
    have Bt7 := Lib.hid (At6.out.bl hb7)
    have Bd7 := Lib.hid (Ad6.out.bl hb7)
    have Bf7 := Lib.hid (Af6.out.bl hb7)
    have Bi7 := Lib.hid (Ai6.out.bl hb7)
    have L7 := Lib.hid (bl M6.out hb7)
    clear cq0 cq1 cq2 cq3 oq0 oq1 oq2 oq3 tq0 tq1 tq2 tq3 dq0 dq1 dq2 dq3 fq0 fq1 fq2 fq3 cn1 cn2 on1 on2 tn1 tn2 dn1 dn2 fn1 fn2
    clear hb7 Ac6 Ao6 At6 Ad6 Af6 Ai6 M6
    generalize wq6.heap.size = gi at *
    have cq0 := Bc7.out.cell 0
    have cq1 := Bc7.out.cell 1
    have cq2 := Bc7.out.cell 2
    have cq3 := Bc7.out.cell 3
    simp only [List.getElem?_toArray, List.getElem?_cons_succ, List.getElem?_cons_zero] at cq0 cq1 cq2 cq3
    have oq0 := Bo7.out.cell 0
    have oq1 := Bo7.out.cell 1
    have oq2 := Bo7.out.cell 2
    have oq3 := Bo7.out.cell 3
    simp only [List.getElem?_toArray, List.getElem?_cons_succ, List.getElem?_cons_zero] at oq0 oq1 oq2 oq3
    have tq0 := Bt7.out.cell 0
    have tq1 := Bt7.out.cell 1
    have tq2 := Bt7.out.cell 2
    have tq3 := Bt7.out.cell 3
    simp only [List.getElem?_toArray, List.getElem?_cons_succ, List.getElem?_cons_zero] at tq0 tq1 tq2 tq3
    have dq0 := Bd7.out.cell 0
    have dq1 := Bd7.out.cell 1
    have dq2 := Bd7.out.cell 2
    have dq3 := Bd7.out.cell 3
    simp only [List.getElem?_toArray, List.getElem?_cons_succ, List.getElem?_cons_zero] at dq0 dq1 dq2 dq3
    have fq0 := Bf7.out.cell 0
    have fq1 := Bf7.out.cell 1
    have fq2 := Bf7.out.cell 2
    have fq3 := Bf7.out.cell 3
    simp only [List.getElem?_toArray, List.getElem?_cons_succ, List.getElem?_cons_zero] at fq0 fq1 fq2 fq3
    have iq0 := Bi7.out.cell 0
    have iq1 := Bi7.out.cell 1
    have iq2 := Bi7.out.cell 2
    have iq3 := Bi7.out.cell 3
    simp only [List.getElem?_toArray, List.getElem?_cons_succ, List.getElem?_cons_zero] at iq0 iq1 iq2 iq3
    go_wp2_with fail
    go_ret
    exact ⟨rfl, L7.out⟩
  · have hab2 : decide (b < a) = true := decide_eq_true (by omega)
    subst e1 e2
    unfold Cur.val at *
    go_enter Try.func5, Try.ntmps5
    have B00 := Lib.hid (Blk.new w 27 #[.int .u64 c.next, .int .i64 c.cap, .int .u64 c.got, .int .u64 c.lost])
    have L0 := Lib.hid ((Below.refl w.heap.size w).alloc (Nat.le_refl _) (.cells #[.int .u64 c.next, .int .i64 c.cap, .int .u64 c.got, .int .u64 c.lost] 27))
    go_wp2_with fail
    refine (HA.out _).mono ?_; rintro e wq1 ⟨rfl, hb1⟩
    have Bc1 := Lib.hid (B00.out.bl hb1)
    have L1 := Lib.hid (bl L0.out hb1)
    clear hb1 B00 L0
    have cq0 := Bc1.out.cell 0
    have cq1 := Bc1.out.cell 1
    have cq2 := Bc1.out.cell 2
    have cq3 := Bc1.out.cell 3
    simp only [List.getElem?_toArray, List.getElem?_cons_succ, List.getElem?_cons_zero] at cq0 cq1 cq2 cq3
    have cn1 : ¬ w.heap.size = wq1.heap.size := by have := Bc1.out.lt; omega
    have cn2 : w.heap.size < wq1.heap.size := Bc1.out.lt
    have Ac1 := Lib.hid (Bc1.out.alloc (.cells #[.int .u64 one.next, .int .i64 one.cap, .int .u64 one.got, .int .u64 one.lost] 27))
    have Ao1 := Lib.hid (Blk.new wq1 27 #[.int .u64 one.next, .int .i64 one.cap, .int .u64 one.got, .int .u64 one.lost])
    have M1 := Lib.hid (L1.out.alloc L1.out.size (.cells #[.int .u64 one.next, .int .i64 one.cap, .int .u64 one.got, .int .u64 one.lost] 27))
    clear Bc1 L1
    go_wp2_with fail
    refine (HB.out _).mono ?_; rintro e wq2 ⟨rfl, hb2⟩
    have Bc2 := Lib.hid (Ac1.out.bl hb2)
    have Bo2 := Lib.hid (Ao1.out.bl hb2)
    have L2 := Lib.hid (bl M1.out hb2)
    clear cq0 cq1 cq2 cq3 cn1 cn2
    clear hb2 Ac1 Ao1 M1
    generalize wq1.heap.size = go at *
    have cq0 := Bc2.out.cell 0
    have cq1 := Bc2.out.cell 1
    have cq2 := Bc2.out.cell 2
    have cq3 := Bc2.out.cell 3
    simp only [List.getElem?_toArray, List.getElem?_cons_succ, List.getElem?_cons_zero] at cq0 cq1 cq2 cq3
    have oq0 := Bo2.out.cell 0
    have oq1 := Bo2.out.cell 1
    have oq2 := Bo2.out.cell 2
    have oq3 := Bo2.out.cell 3
    simp only [List.getElem?_toArray, List.getElem?_cons_succ, List.getElem?_cons_zero] at oq0 oq1 oq2 oq3
    have cn1 : ¬ w.heap.size = wq2.heap.size := by have := Bc2.out.lt; omega
    have cn2 : w.heap.size < wq2.heap.size := Bc2.out.lt
    have on1 : ¬ go = wq2.heap.size := by have := Bo2.out.lt; omega
    have on2 : go < wq2.heap.size := Bo2.out.lt
    have Ac2 := Lib.hid (Bc2.out.alloc (.cells #[.int .u64 two.next, .int .i64 two.cap, .int .u64 two.got, .int .u64 two.lost] 27))
    have Ao2 := Lib.hid (Bo2.out.alloc (.cells #[.int .u64 two.next, .int .i64 two.cap, .int .u64 two.got, .int .u64 two.lost] 27))
    have At2 := Lib.hid (Blk.new wq2 27 #[.int .u64 two.next, .int .i64 two.cap, .int .u64 two.got, .int .u64 two.lost])
    have M2 := Lib.hid (L2.out.alloc L2.out.size (.cells #[.int .u64 two.next, .int .i64 two.cap, .int .u64 two.got, .int .u64 two.lost] 27))
    clear Bc2 Bo2 L2
    go_wp2_with fail
    refine (HC.out _).mono ?_; rintro e wq3 ⟨rfl, hb3⟩
    have Bc3 := Lib.hid (Ac2.out.bl hb3)
    have Bo3 := Lib.hid (Ao2.out.bl hb3)
    have Bt3 := Lib.hid (At2.out.bl hb3)
    have L3 := Lib.hid (bl M2.out hb3)
    clear cq0 cq1 cq2 cq3 oq0 oq1 oq2 oq3 cn1 cn2 on1 on2
    clear hb3 Ac2 Ao2 At2 M2
    generalize wq2.heap.size = gt at *
    have cq0 := Bc3.out.cell 0
    have cq1 := Bc3.out.cell 1
    have cq2 := Bc3.out.cell 2
    have cq3 := Bc3.out.cell 3
    simp only [List.getElem?_toArray, List.getElem?_cons_succ, List.getElem?_cons_zero] at cq0 cq1 cq2 cq3
    have oq0 := Bo3.out.cell 0
    have oq1 := Bo3.out.cell 1
    have oq2 := Bo3.out.cell 2
    have oq3 := Bo3.out.cell 3
    simp only [List.getElem?_toArray, List.getElem?_cons_succ, List.getElem?_cons_zero] at oq0 oq1 oq2 oq3
    have tq0 := Bt3.out.cell 0
    have tq1 := Bt3.out.cell 1
    have tq2 := Bt3.out.cell 2
    have tq3 := Bt3.out.cell 3
    simp only [List.getElem?_toArray, List.getElem?_cons_succ, List.getElem?_cons_zero] at tq0 tq1 tq2 tq3
    have cn1 : ¬ w.heap.size = wq3.heap.size := by have := Bc3.out.lt; omega
    have cn2 : w.heap.size < wq3.heap.size := Bc3.out.lt
    have on1 : ¬ go = wq3.heap.size := by have := Bo3.out.lt; omega
    have on2 : go < wq3.heap.size := Bo3.out.lt
    have tn1 : ¬ gt = wq3.heap.size := by have := Bt3.out.lt; omega
    have tn2 : gt < wq3.heap.size := Bt3.out.lt
    have Ac3 := Lib.hid (Bc3.out.alloc (.cells #[.int .u64 two.next, .int .i64 two.cap, .int .u64 two.got, .int .u64 two.lost] 27))
    have Ao3 := Lib.hid (Bo3.out.alloc (.cells #[.int .u64 two.next, .int .i64 two.cap, .int .u64 two.got, .int .u64 two.lost] 27))
    have At3 := Lib.hid (Bt3.out.alloc (.cells #[.int .u64 two.next, .int .i64 two.cap, .int .u64 two.got, .int .u64 two.lost] 27))
    have Ah3 := Lib.hid (Blk.new wq3 27 #[.int .u64 two.next, .int .i64 two.cap, .int .u64 two.got, .int .u64 two.lost])
    have M3 := Lib.hid (L3.out.alloc L3.out.size (.cells #[.int .u64 two.next, .int .i64 two.cap, .int .u64 two.got, .int .u64 two.lost] 27))
    clear Bc3 Bo3 Bt3 L3
    go_upto_region 8 with fail
    have hst : Three w w.heap.size #[.int .u64 c.next, .int .i64 c.cap, .int .u64 c.got, .int .u64 c.lost] go #[.int .u64 one.next, .int .i64 one.cap, .int .u64 one.got, .int .u64 one.lost] gt #[.int .u64 two.next, .int .i64 two.cap, .int .u64 two.got, .int .u64 two.lost] wq3.heap.size #[.int .u64 two.next, .int .i64 two.cap, .int .u64 two.got, .int .u64 two.lost] (wq3.alloc (.cells #[.int .u64 two.next, .int .i64 two.cap, .int .u64 two.got, .int .u64 two.lost] 27)) := ⟨Ac3.out, Ao3.out, At3.out, Ah3.out, M3.out⟩
    clear cq0 cq1 cq2 cq3 oq0 oq1 oq2 oq3 tq0 tq1 tq2 tq3 cn1 cn2 on1 on2 tn1 tn2
    clear Ac3 Ao3 At3 Ah3 M3
    generalize wq3.heap.size = gh at *
    generalize hgw : wq3.alloc (.cells #[.int .u64 two.next, .int .i64 two.cap, .int .u64 two.got, .int .u64 two.lost] 27) = wz at *
    clear hgw
    have hnonempty : Nonempty (Held (Three w w.heap.size #[.int .u64 c.next, .int .i64 c.cap, .int .u64 c.got, .int .u64 c.lost] go #[.int .u64 one.next, .int .i64 one.cap, .int .u64 one.got, .int .u64 one.lost] gt #[.int .u64 two.next, .int .i64 two.cap, .int .u64 two.got, .int .u64 two.lost] gh #[.int .u64 two.next, .int .i64 two.cap, .int .u64 two.got, .int .u64 two.lost])) := ⟨⟨wz, hst⟩⟩
    have cm0 : ∀ x : Held (Three w w.heap.size #[.int .u64 c.next, .int .i64 c.cap, .int .u64 c.got, .int .u64 c.lost] go #[.int .u64 one.next, .int .i64 one.cap, .int .u64 one.got, .int .u64 one.lost] gt #[.int .u64 two.next, .int .i64 two.cap, .int .u64 two.got, .int .u64 two.lost] gh #[.int .u64 two.next, .int .i64 two.cap, .int .u64 two.got, .int .u64 two.lost]), x.w.cell? ⟨w.heap.size, 0, none⟩ = some (.int .u64 c.next) := fun x => x.ok.x.cell 0
    have cm1 : ∀ x : Held (Three w w.heap.size #[.int .u64 c.next, .int .i64 c.cap, .int .u64 c.got, .int .u64 c.lost] go #[.int .u64 one.next, .int .i64 one.cap, .int .u64 one.got, .int .u64 one.lost] gt #[.int .u64 two.next, .int .i64 two.cap, .int .u64 two.got, .int .u64 two.lost] gh #[.int .u64 two.next, .int .i64 two.cap, .int .u64 two.got, .int .u64 two.lost]), x.w.cell? ⟨w.heap.size, 1, none⟩ = some (.int .i64 c.cap) := fun x => x.ok.x.cell 1
    have cm2 : ∀ x : Held (Three w w.heap.size #[.int .u64 c.next, .int .i64 c.cap, .int .u64 c.got, .int .u64 c.lost] go #[.int .u64 one.next, .int .i64 one.cap, .int .u64 one.got, .int .u64 one.lost] gt #[.int .u64 two.next, .int .i64 two.cap, .int .u64 two.got, .int .u64 two.lost] gh #[.int .u64 two.next, .int .i64 two.cap, .int .u64 two.got, .int .u64 two.lost]), x.w.cell? ⟨w.heap.size, 2, none⟩ = some (.int .u64 c.got) := fun x => x.ok.x.cell 2
    have cm3 : ∀ x : Held (Three w w.heap.size #[.int .u64 c.next, .int .i64 c.cap, .int .u64 c.got, .int .u64 c.lost] go #[.int .u64 one.next, .int .i64 one.cap, .int .u64 one.got, .int .u64 one.lost] gt #[.int .u64 two.next, .int .i64 two.cap, .int .u64 two.got, .int .u64 two.lost] gh #[.int .u64 two.next, .int .i64 two.cap, .int .u64 two.got, .int .u64 two.lost]), x.w.cell? ⟨w.heap.size, 3, none⟩ = some (.int .u64 c.lost) := fun x => x.ok.x.cell 3
    have om0 : ∀ x : Held (Three w w.heap.size #[.int .u64 c.next, .int .i64 c.cap, .int .u64 c.got, .int .u64 c.lost] go #[.int .u64 one.next, .int .i64 one.cap, .int .u64 one.got, .int .u64 one.lost] gt #[.int .u64 two.next, .int .i64 two.cap, .int .u64 two.got, .int .u64 two.lost] gh #[.int .u64 two.next, .int .i64 two.cap, .int .u64 two.got, .int .u64 two.lost]), x.w.cell? ⟨go, 0, none⟩ = some (.int .u64 one.next) := fun x => x.ok.y.cell 0
    have om1 : ∀ x : Held (Three w w.heap.size #[.int .u64 c.next, .int .i64 c.cap, .int .u64 c.got, .int .u64 c.lost] go #[.int .u64 one.next, .int .i64 one.cap, .int .u64 one.got, .int .u64 one.lost] gt #[.int .u64 two.next, .int .i64 two.cap, .int .u64 two.got, .int .u64 two.lost] gh #[.int .u64 two.next, .int .i64 two.cap, .int .u64 two.got, .int .u64 two.lost]), x.w.cell? ⟨go, 1, none⟩ = some (.int .i64 one.cap) := fun x => x.ok.y.cell 1
    have om2 : ∀ x : Held (Three w w.heap.size #[.int .u64 c.next, .int .i64 c.cap, .int .u64 c.got, .int .u64 c.lost] go #[.int .u64 one.next, .int .i64 one.cap, .int .u64 one.got, .int .u64 one.lost] gt #[.int .u64 two.next, .int .i64 two.cap, .int .u64 two.got, .int .u64 two.lost] gh #[.int .u64 two.next, .int .i64 two.cap, .int .u64 two.got, .int .u64 two.lost]), x.w.cell? ⟨go, 2, none⟩ = some (.int .u64 one.got) := fun x => x.ok.y.cell 2
    have om3 : ∀ x : Held (Three w w.heap.size #[.int .u64 c.next, .int .i64 c.cap, .int .u64 c.got, .int .u64 c.lost] go #[.int .u64 one.next, .int .i64 one.cap, .int .u64 one.got, .int .u64 one.lost] gt #[.int .u64 two.next, .int .i64 two.cap, .int .u64 two.got, .int .u64 two.lost] gh #[.int .u64 two.next, .int .i64 two.cap, .int .u64 two.got, .int .u64 two.lost]), x.w.cell? ⟨go, 3, none⟩ = some (.int .u64 one.lost) := fun x => x.ok.y.cell 3
    have tm0 : ∀ x : Held (Three w w.heap.size #[.int .u64 c.next, .int .i64 c.cap, .int .u64 c.got, .int .u64 c.lost] go #[.int .u64 one.next, .int .i64 one.cap, .int .u64 one.got, .int .u64 one.lost] gt #[.int .u64 two.next, .int .i64 two.cap, .int .u64 two.got, .int .u64 two.lost] gh #[.int .u64 two.next, .int .i64 two.cap, .int .u64 two.got, .int .u64 two.lost]), x.w.cell? ⟨gt, 0, none⟩ = some (.int .u64 two.next) := fun x => x.ok.z.cell 0
    have tm1 : ∀ x : Held (Three w w.heap.size #[.int .u64 c.next, .int .i64 c.cap, .int .u64 c.got, .int .u64 c.lost] go #[.int .u64 one.next, .int .i64 one.cap, .int .u64 one.got, .int .u64 one.lost] gt #[.int .u64 two.next, .int .i64 two.cap, .int .u64 two.got, .int .u64 two.lost] gh #[.int .u64 two.next, .int .i64 two.cap, .int .u64 two.got, .int .u64 two.lost]), x.w.cell? ⟨gt, 1, none⟩ = some (.int .i64 two.cap) := fun x => x.ok.z.cell 1
    have tm2 : ∀ x : Held (Three w w.heap.size #[.int .u64 c.next, .int .i64 c.cap, .int .u64 c.got, .int .u64 c.lost] go #[.int .u64 one.next, .int .i64 one.cap, .int .u64 one.got, .int .u64 one.lost] gt #[.int .u64 two.next, .int .i64 two.cap, .int .u64 two.got, .int .u64 two.lost] gh #[.int .u64 two.next, .int .i64 two.cap, .int .u64 two.got, .int .u64 two.lost]), x.w.cell? ⟨gt, 2, none⟩ = some (.int .u64 two.got) := fun x => x.ok.z.cell 2
    have tm3 : ∀ x : Held (Three w w.heap.size #[.int .u64 c.next, .int .i64 c.cap, .int .u64 c.got, .int .u64 c.lost] go #[.int .u64 one.next, .int .i64 one.cap, .int .u64 one.got, .int .u64 one.lost] gt #[.int .u64 two.next, .int .i64 two.cap, .int .u64 two.got, .int .u64 two.lost] gh #[.int .u64 two.next, .int .i64 two.cap, .int .u64 two.got, .int .u64 two.lost]), x.w.cell? ⟨gt, 3, none⟩ = some (.int .u64 two.lost) := fun x => x.ok.z.cell 3
    have hm0 : ∀ x : Held (Three w w.heap.size #[.int .u64 c.next, .int .i64 c.cap, .int .u64 c.got, .int .u64 c.lost] go #[.int .u64 one.next, .int .i64 one.cap, .int .u64 one.got, .int .u64 one.lost] gt #[.int .u64 two.next, .int .i64 two.cap, .int .u64 two.got, .int .u64 two.lost] gh #[.int .u64 two.next, .int .i64 two.cap, .int .u64 two.got, .int .u64 two.lost]), x.w.cell? ⟨gh, 0, none⟩ = some (.int .u64 two.next) := fun x => x.ok.u.cell 0
    have hm1 : ∀ x : Held (Three w w.heap.size #[.int .u64 c.next, .int .i64 c.cap, .int .u64 c.got, .int .u64 c.lost] go #[.int .u64 one.next, .int .i64 one.cap, .int .u64 one.got, .int .u64 one.lost] gt #[.int .u64 two.next, .int .i64 two.cap, .int .u64 two.got, .int .u64 two.lost] gh #[.int .u64 two.next, .int .i64 two.cap, .int .u64 two.got, .int .u64 two.lost]), x.w.cell? ⟨gh, 1, none⟩ = some (.int .i64 two.cap) := fun x => x.ok.u.cell 1
    have hm2 : ∀ x : Held (Three w w.heap.size #[.int .u64 c.next, .int .i64 c.cap, .int .u64 c.got, .int .u64 c.lost] go #[.int .u64 one.next, .int .i64 one.cap, .int .u64 one.got, .int .u64 one.lost] gt #[.int .u64 two.next, .int .i64 two.cap, .int .u64 two.got, .int .u64 two.lost] gh #[.int .u64 two.next, .int .i64 two.cap, .int .u64 two.got, .int .u64 two.lost]), x.w.cell? ⟨gh, 2, none⟩ = some (.int .u64 two.got) := fun x => x.ok.u.cell 2
    have hm3 : ∀ x : Held (Three w w.heap.size #[.int .u64 c.next, .int .i64 c.cap, .int .u64 c.got, .int .u64 c.lost] go #[.int .u64 one.next, .int .i64 one.cap, .int .u64 one.got, .int .u64 one.lost] gt #[.int .u64 two.next, .int .i64 two.cap, .int .u64 two.got, .int .u64 two.lost] gh #[.int .u64 two.next, .int .i64 two.cap, .int .u64 two.got, .int .u64 two.lost]), x.w.cell? ⟨gh, 3, none⟩ = some (.int .u64 two.lost) := fun x => x.ok.u.cell 3
    have HK1h := Lib.hid (show ∀ W, Three w w.heap.size #[.int .u64 c.next, .int .i64 c.cap, .int .u64 c.got, .int .u64 c.lost] go #[.int .u64 one.next, .int .i64 one.cap, .int .u64 one.got, .int .u64 one.lost] gt #[.int .u64 two.next, .int .i64 two.cap, .int .u64 two.got, .int .u64 two.lost] gh #[.int .u64 two.next, .int .i64 two.cap, .int .u64 two.got, .int .u64 two.lost] W → Calls Try.prog 16 #[.agg #[.int .u64 one.next, .int .i64 one.cap, .int .u64 one.got, .int .u64 one.lost], .int .u64 hi] W fun e w' => e = .returned (.int .i64 n) ∧ Three w w.heap.size #[.int .u64 c.next, .int .i64 c.cap, .int .u64 c.got, .int .u64 c.lost] go #[.int .u64 one.next, .int .i64 one.cap, .int .u64 one.got, .int .u64 one.lost] gt #[.int .u64 two.next, .int .i64 two.cap, .int .u64 two.got, .int .u64 two.lost] gh #[.int .u64 two.next, .int .i64 two.cap, .int .u64 two.got, .int .u64 two.lost] w' from fun W hW => (HK1.out W).mono fun _ _ ⟨he, hb⟩ => ⟨he, hW.bl hb⟩)
    have HK2h := Lib.hid (show ∀ W, Three w w.heap.size #[.int .u64 c.next, .int .i64 c.cap, .int .u64 c.got, .int .u64 c.lost] go #[.int .u64 one.next, .int .i64 one.cap, .int .u64 one.got, .int .u64 one.lost] gt #[.int .u64 two.next, .int .i64 two.cap, .int .u64 two.got, .int .u64 two.lost] gh #[.int .u64 two.next, .int .i64 two.cap, .int .u64 two.got, .int .u64 two.lost] W → Calls Try.prog 16 #[.agg #[.int .u64 c.next, .int .i64 c.cap, .int .u64 c.got, .int .u64 c.lost], .int .u64 hi] W fun e w' => e = .returned (.int .i64 n) ∧ Three w w.heap.size #[.int .u64 c.next, .int .i64 c.cap, .int .u64 c.got, .int .u64 c.lost] go #[.int .u64 one.next, .int .i64 one.cap, .int .u64 one.got, .int .u64 one.lost] gt #[.int .u64 two.next, .int .i64 two.cap, .int .u64 two.got, .int .u64 two.lost] gh #[.int .u64 two.next, .int .i64 two.cap, .int .u64 two.got, .int .u64 two.lost] w' from fun W hW => (HK2.out W).mono fun _ _ ⟨he, hb⟩ => ⟨he, hW.bl hb⟩)
    have HK3h := Lib.hid (show ∀ W, Three w w.heap.size #[.int .u64 c.next, .int .i64 c.cap, .int .u64 c.got, .int .u64 c.lost] go #[.int .u64 one.next, .int .i64 one.cap, .int .u64 one.got, .int .u64 one.lost] gt #[.int .u64 two.next, .int .i64 two.cap, .int .u64 two.got, .int .u64 two.lost] gh #[.int .u64 two.next, .int .i64 two.cap, .int .u64 two.got, .int .u64 two.lost] W → Calls Try.prog 16 #[.agg #[.int .u64 two.next, .int .i64 two.cap, .int .u64 two.got, .int .u64 two.lost], .int .u64 hi] W fun e w' => e = .returned (.int .i64 n) ∧ Three w w.heap.size #[.int .u64 c.next, .int .i64 c.cap, .int .u64 c.got, .int .u64 c.lost] go #[.int .u64 one.next, .int .i64 one.cap, .int .u64 one.got, .int .u64 one.lost] gt #[.int .u64 two.next, .int .i64 two.cap, .int .u64 two.got, .int .u64 two.lost] gh #[.int .u64 two.next, .int .i64 two.cap, .int .u64 two.got, .int .u64 two.lost] w' from fun W hW => (HK3.out W).mono fun _ _ ⟨he, hb⟩ => ⟨he, hW.bl hb⟩)
    refine drawn_held (S := Three w w.heap.size #[.int .u64 c.next, .int .i64 c.cap, .int .u64 c.got, .int .u64 c.lost] go #[.int .u64 one.next, .int .i64 one.cap, .int .u64 one.got, .int .u64 one.lost] gt #[.int .u64 two.next, .int .i64 two.cap, .int .u64 two.got, .int .u64 two.lost] gh #[.int .u64 two.next, .int .i64 two.cap, .int .u64 two.got, .int .u64 two.lost]) (by kernel_rfl) (by kernel_rfl) ⟨hst.x, hst.y, hst.z, hst.u, hst.below.drew⟩ ?_
    repeat (go_big_quiet_step (first | (go_at_call_of 16 one.next; exact held_call HK1h.out) | (go_at_call_of 16 c.next; exact held_call HK2h.out) | (go_at_call_of 16 two.next; exact held_call HK3h.out)))
    refine wpQuiet_nil ?_
    intro w7 hw'; obtain ⟨⟨w7', hb7⟩, hw''⟩ := hw'; dsimp only at hw''; subst hw''
    have Bcz := Lib.hid hb7.x
    have Boz := Lib.hid hb7.y
    have Btz := Lib.hid hb7.z
    have Lz := Lib.hid hb7.below
    clear hb7 hst hnonempty HK1h HK2h HK3h cm0 cm1 cm2 cm3 om0 om1 om2 om3 tm0 tm1 tm2 tm3 hm0 hm1 hm2 hm3
    have cq0 := Bcz.out.cell 0
    have cq1 := Bcz.out.cell 1
    have cq2 := Bcz.out.cell 2
    have cq3 := Bcz.out.cell 3
    simp only [List.getElem?_toArray, List.getElem?_cons_succ, List.getElem?_cons_zero] at cq0 cq1 cq2 cq3
    have oq0 := Boz.out.cell 0
    have oq1 := Boz.out.cell 1
    have oq2 := Boz.out.cell 2
    have oq3 := Boz.out.cell 3
    simp only [List.getElem?_toArray, List.getElem?_cons_succ, List.getElem?_cons_zero] at oq0 oq1 oq2 oq3
    have tq0 := Btz.out.cell 0
    have tq1 := Btz.out.cell 1
    have tq2 := Btz.out.cell 2
    have tq3 := Btz.out.cell 3
    simp only [List.getElem?_toArray, List.getElem?_cons_succ, List.getElem?_cons_zero] at tq0 tq1 tq2 tq3
    go_wp2_with fail
    refine (HT1.out _).mono ?_; rintro e wq4 ⟨rfl, hb4⟩
    have Bc4 := Lib.hid (Bcz.out.bl hb4)
    have Bo4 := Lib.hid (Boz.out.bl hb4)
    have Bt4 := Lib.hid (Btz.out.bl hb4)
    have L4 := Lib.hid (bl Lz.out hb4)
    clear cq0 cq1 cq2 cq3 oq0 oq1 oq2 oq3 tq0 tq1 tq2 tq3
    clear hb4 Bcz Boz Btz Lz
    have cq0 := Bc4.out.cell 0
    have cq1 := Bc4.out.cell 1
    have cq2 := Bc4.out.cell 2
    have cq3 := Bc4.out.cell 3
    simp only [List.getElem?_toArray, List.getElem?_cons_succ, List.getElem?_cons_zero] at cq0 cq1 cq2 cq3
    have oq0 := Bo4.out.cell 0
    have oq1 := Bo4.out.cell 1
    have oq2 := Bo4.out.cell 2
    have oq3 := Bo4.out.cell 3
    simp only [List.getElem?_toArray, List.getElem?_cons_succ, List.getElem?_cons_zero] at oq0 oq1 oq2 oq3
    have tq0 := Bt4.out.cell 0
    have tq1 := Bt4.out.cell 1
    have tq2 := Bt4.out.cell 2
    have tq3 := Bt4.out.cell 3
    simp only [List.getElem?_toArray, List.getElem?_cons_succ, List.getElem?_cons_zero] at tq0 tq1 tq2 tq3
    have cn1 : ¬ w.heap.size = wq4.heap.size := by have := Bc4.out.lt; omega
    have cn2 : w.heap.size < wq4.heap.size := Bc4.out.lt
    have on1 : ¬ go = wq4.heap.size := by have := Bo4.out.lt; omega
    have on2 : go < wq4.heap.size := Bo4.out.lt
    have tn1 : ¬ gt = wq4.heap.size := by have := Bt4.out.lt; omega
    have tn2 : gt < wq4.heap.size := Bt4.out.lt
    have Ac4 := Lib.hid (Bc4.out.alloc (.cells #[.int .u64 d.next, .int .i64 d.cap, .int .u64 d.got, .int .u64 d.lost] 27))
    have Ao4 := Lib.hid (Bo4.out.alloc (.cells #[.int .u64 d.next, .int .i64 d.cap, .int .u64 d.got, .int .u64 d.lost] 27))
    have At4 := Lib.hid (Bt4.out.alloc (.cells #[.int .u64 d.next, .int .i64 d.cap, .int .u64 d.got, .int .u64 d.lost] 27))
    have Ad4 := Lib.hid (Blk.new wq4 27 #[.int .u64 d.next, .int .i64 d.cap, .int .u64 d.got, .int .u64 d.lost])
    have M4 := Lib.hid (L4.out.alloc L4.out.size (.cells #[.int .u64 d.next, .int .i64 d.cap, .int .u64 d.got, .int .u64 d.lost] 27))
    clear Bc4 Bo4 Bt4 L4
    go_wp2_with fail
    refine (HT2.out _).mono ?_; rintro e wq5 ⟨rfl, hb5⟩
    have Bc5 := Lib.hid (Ac4.out.bl hb5)
    have Bo5 := Lib.hid (Ao4.out.bl hb5)
    have Bt5 := Lib.hid (At4.out.bl hb5)
    have Bd5 := Lib.hid (Ad4.out.bl hb5)
    have L5 := Lib.hid (bl M4.out hb5)
    clear cq0 cq1 cq2 cq3 oq0 oq1 oq2 oq3 tq0 tq1 tq2 tq3 cn1 cn2 on1 on2 tn1 tn2
    clear hb5 Ac4 Ao4 At4 Ad4 M4
    generalize wq4.heap.size = gd at *
    have cq0 := Bc5.out.cell 0
    have cq1 := Bc5.out.cell 1
    have cq2 := Bc5.out.cell 2
    have cq3 := Bc5.out.cell 3
    simp only [List.getElem?_toArray, List.getElem?_cons_succ, List.getElem?_cons_zero] at cq0 cq1 cq2 cq3
    have oq0 := Bo5.out.cell 0
    have oq1 := Bo5.out.cell 1
    have oq2 := Bo5.out.cell 2
    have oq3 := Bo5.out.cell 3
    simp only [List.getElem?_toArray, List.getElem?_cons_succ, List.getElem?_cons_zero] at oq0 oq1 oq2 oq3
    have tq0 := Bt5.out.cell 0
    have tq1 := Bt5.out.cell 1
    have tq2 := Bt5.out.cell 2
    have tq3 := Bt5.out.cell 3
    simp only [List.getElem?_toArray, List.getElem?_cons_succ, List.getElem?_cons_zero] at tq0 tq1 tq2 tq3
    have dq0 := Bd5.out.cell 0
    have dq1 := Bd5.out.cell 1
    have dq2 := Bd5.out.cell 2
    have dq3 := Bd5.out.cell 3
    simp only [List.getElem?_toArray, List.getElem?_cons_succ, List.getElem?_cons_zero] at dq0 dq1 dq2 dq3
    have cn1 : ¬ w.heap.size = wq5.heap.size := by have := Bc5.out.lt; omega
    have cn2 : w.heap.size < wq5.heap.size := Bc5.out.lt
    have on1 : ¬ go = wq5.heap.size := by have := Bo5.out.lt; omega
    have on2 : go < wq5.heap.size := Bo5.out.lt
    have tn1 : ¬ gt = wq5.heap.size := by have := Bt5.out.lt; omega
    have tn2 : gt < wq5.heap.size := Bt5.out.lt
    have dn1 : ¬ gd = wq5.heap.size := by have := Bd5.out.lt; omega
    have dn2 : gd < wq5.heap.size := Bd5.out.lt
    have Ac5 := Lib.hid (Bc5.out.alloc (.cells #[.int .u64 d.next, .int .i64 d.cap, .int .u64 d.got, .int .u64 d.lost] 27))
    have Ao5 := Lib.hid (Bo5.out.alloc (.cells #[.int .u64 d.next, .int .i64 d.cap, .int .u64 d.got, .int .u64 d.lost] 27))
    have At5 := Lib.hid (Bt5.out.alloc (.cells #[.int .u64 d.next, .int .i64 d.cap, .int .u64 d.got, .int .u64 d.lost] 27))
    have Ad5 := Lib.hid (Bd5.out.alloc (.cells #[.int .u64 d.next, .int .i64 d.cap, .int .u64 d.got, .int .u64 d.lost] 27))
    have Af5 := Lib.hid (Blk.new wq5 27 #[.int .u64 d.next, .int .i64 d.cap, .int .u64 d.got, .int .u64 d.lost])
    have M5 := Lib.hid (L5.out.alloc L5.out.size (.cells #[.int .u64 d.next, .int .i64 d.cap, .int .u64 d.got, .int .u64 d.lost] 27))
    clear Bc5 Bo5 Bt5 Bd5 L5
    go_wp2_with fail
    refine (HT3.out _).mono ?_; rintro e wq6 ⟨rfl, hb6⟩
    have Bc6 := Lib.hid (Ac5.out.bl hb6)
    have Bo6 := Lib.hid (Ao5.out.bl hb6)
    have Bt6 := Lib.hid (At5.out.bl hb6)
    have Bd6 := Lib.hid (Ad5.out.bl hb6)
    have Bf6 := Lib.hid (Af5.out.bl hb6)
    have L6 := Lib.hid (bl M5.out hb6)
    clear cq0 cq1 cq2 cq3 oq0 oq1 oq2 oq3 tq0 tq1 tq2 tq3 dq0 dq1 dq2 dq3 cn1 cn2 on1 on2 tn1 tn2 dn1 dn2
    clear hb6 Ac5 Ao5 At5 Ad5 Af5 M5
    generalize wq5.heap.size = gf at *
    have cq0 := Bc6.out.cell 0
    have cq1 := Bc6.out.cell 1
    have cq2 := Bc6.out.cell 2
    have cq3 := Bc6.out.cell 3
    simp only [List.getElem?_toArray, List.getElem?_cons_succ, List.getElem?_cons_zero] at cq0 cq1 cq2 cq3
    have oq0 := Bo6.out.cell 0
    have oq1 := Bo6.out.cell 1
    have oq2 := Bo6.out.cell 2
    have oq3 := Bo6.out.cell 3
    simp only [List.getElem?_toArray, List.getElem?_cons_succ, List.getElem?_cons_zero] at oq0 oq1 oq2 oq3
    have tq0 := Bt6.out.cell 0
    have tq1 := Bt6.out.cell 1
    have tq2 := Bt6.out.cell 2
    have tq3 := Bt6.out.cell 3
    simp only [List.getElem?_toArray, List.getElem?_cons_succ, List.getElem?_cons_zero] at tq0 tq1 tq2 tq3
    have dq0 := Bd6.out.cell 0
    have dq1 := Bd6.out.cell 1
    have dq2 := Bd6.out.cell 2
    have dq3 := Bd6.out.cell 3
    simp only [List.getElem?_toArray, List.getElem?_cons_succ, List.getElem?_cons_zero] at dq0 dq1 dq2 dq3
    have fq0 := Bf6.out.cell 0
    have fq1 := Bf6.out.cell 1
    have fq2 := Bf6.out.cell 2
    have fq3 := Bf6.out.cell 3
    simp only [List.getElem?_toArray, List.getElem?_cons_succ, List.getElem?_cons_zero] at fq0 fq1 fq2 fq3
    have cn1 : ¬ w.heap.size = wq6.heap.size := by have := Bc6.out.lt; omega
    have cn2 : w.heap.size < wq6.heap.size := Bc6.out.lt
    have on1 : ¬ go = wq6.heap.size := by have := Bo6.out.lt; omega
    have on2 : go < wq6.heap.size := Bo6.out.lt
    have tn1 : ¬ gt = wq6.heap.size := by have := Bt6.out.lt; omega
    have tn2 : gt < wq6.heap.size := Bt6.out.lt
    have dn1 : ¬ gd = wq6.heap.size := by have := Bd6.out.lt; omega
    have dn2 : gd < wq6.heap.size := Bd6.out.lt
    have fn1 : ¬ gf = wq6.heap.size := by have := Bf6.out.lt; omega
    have fn2 : gf < wq6.heap.size := Bf6.out.lt
    have Ac6 := Lib.hid (Bc6.out.alloc (.cells #[.int .u64 d.next, .int .i64 d.cap, .int .u64 d.got, .int .u64 d.lost] 27))
    have Ao6 := Lib.hid (Bo6.out.alloc (.cells #[.int .u64 d.next, .int .i64 d.cap, .int .u64 d.got, .int .u64 d.lost] 27))
    have At6 := Lib.hid (Bt6.out.alloc (.cells #[.int .u64 d.next, .int .i64 d.cap, .int .u64 d.got, .int .u64 d.lost] 27))
    have Ad6 := Lib.hid (Bd6.out.alloc (.cells #[.int .u64 d.next, .int .i64 d.cap, .int .u64 d.got, .int .u64 d.lost] 27))
    have Af6 := Lib.hid (Bf6.out.alloc (.cells #[.int .u64 d.next, .int .i64 d.cap, .int .u64 d.got, .int .u64 d.lost] 27))
    have Ai6 := Lib.hid (Blk.new wq6 27 #[.int .u64 d.next, .int .i64 d.cap, .int .u64 d.got, .int .u64 d.lost])
    have M6 := Lib.hid (L6.out.alloc L6.out.size (.cells #[.int .u64 d.next, .int .i64 d.cap, .int .u64 d.got, .int .u64 d.lost] 27))
    clear Bc6 Bo6 Bt6 Bd6 Bf6 L6
    go_wp2_with fail
    refine (awake_any _).mono ?_; rintro e wq7 ⟨rfl, hb7⟩
    have Bc7 := Lib.hid (Ac6.out.bl hb7)
    have Bo7 := Lib.hid (Ao6.out.bl hb7)
    have Bt7 := Lib.hid (At6.out.bl hb7)
    have Bd7 := Lib.hid (Ad6.out.bl hb7)
    have Bf7 := Lib.hid (Af6.out.bl hb7)
    have Bi7 := Lib.hid (Ai6.out.bl hb7)
    have L7 := Lib.hid (bl M6.out hb7)
    clear cq0 cq1 cq2 cq3 oq0 oq1 oq2 oq3 tq0 tq1 tq2 tq3 dq0 dq1 dq2 dq3 fq0 fq1 fq2 fq3 cn1 cn2 on1 on2 tn1 tn2 dn1 dn2 fn1 fn2
    clear hb7 Ac6 Ao6 At6 Ad6 Af6 Ai6 M6
    generalize wq6.heap.size = gi at *
    have cq0 := Bc7.out.cell 0
    have cq1 := Bc7.out.cell 1
    have cq2 := Bc7.out.cell 2
    have cq3 := Bc7.out.cell 3
    simp only [List.getElem?_toArray, List.getElem?_cons_succ, List.getElem?_cons_zero] at cq0 cq1 cq2 cq3
    have oq0 := Bo7.out.cell 0
    have oq1 := Bo7.out.cell 1
    have oq2 := Bo7.out.cell 2
    have oq3 := Bo7.out.cell 3
    simp only [List.getElem?_toArray, List.getElem?_cons_succ, List.getElem?_cons_zero] at oq0 oq1 oq2 oq3
    have tq0 := Bt7.out.cell 0
    have tq1 := Bt7.out.cell 1
    have tq2 := Bt7.out.cell 2
    have tq3 := Bt7.out.cell 3
    simp only [List.getElem?_toArray, List.getElem?_cons_succ, List.getElem?_cons_zero] at tq0 tq1 tq2 tq3
    have dq0 := Bd7.out.cell 0
    have dq1 := Bd7.out.cell 1
    have dq2 := Bd7.out.cell 2
    have dq3 := Bd7.out.cell 3
    simp only [List.getElem?_toArray, List.getElem?_cons_succ, List.getElem?_cons_zero] at dq0 dq1 dq2 dq3
    have fq0 := Bf7.out.cell 0
    have fq1 := Bf7.out.cell 1
    have fq2 := Bf7.out.cell 2
    have fq3 := Bf7.out.cell 3
    simp only [List.getElem?_toArray, List.getElem?_cons_succ, List.getElem?_cons_zero] at fq0 fq1 fq2 fq3
    have iq0 := Bi7.out.cell 0
    have iq1 := Bi7.out.cell 1
    have iq2 := Bi7.out.cell 2
    have iq3 := Bi7.out.cell 3
    simp only [List.getElem?_toArray, List.getElem?_cons_succ, List.getElem?_cons_zero] at iq0 iq1 iq2 iq3
    go_wp2_with fail
    go_ret
    exact ⟨rfl, L7.out⟩

end Go.Proofs.Ythfkgbgbhjnpdaa.Queue
