/-
  Reg: RegDecides: the law's walk. Condition: the table of ways lies in block 0. By an AI agent.
-/
import Derived.Test.YtjnhmoafljfnkaaDoorRegE
import Derived.Test.YtjnhmoafljfnkaaDoorRefM
namespace Go.Proofs.YtjnhmoafljfnkaaDoor.Reg
set_option linter.unusedVariables false
set_option linter.unusedSimpArgs false
open Go Go.RowKit Go.Proofs.YtjnhmoafljfnkaaDoor.Base Go.Proofs.YtjnhmoafljfnkaaDoor.Modes Go.Deep

structure Act where
  tell : Bool
  flags : Int
  source : Int
  mode : Int
  free : Bool
structure Act.Ok (a : Act) : Prop where
  flags : -9223372036854775808 ≤ a.flags ∧ a.flags ≤ 9223372036854775807
  source : -9223372036854775808 ≤ a.source ∧ a.source ≤ 9223372036854775807
  mode : -9223372036854775808 ≤ a.mode ∧ a.mode ≤ 9223372036854775807
def Act.val (a : Act) : Value := .agg #[.bool a.tell, .int .i64 a.flags, .int .i64 a.source, .int .i64 a.mode, .bool a.free]
def Act.ask (a : Act) : Ask := ⟨a.source, a.mode, a.free⟩
set_option maxRecDepth 100000 in
set_option maxHeartbeats 8000000 in
theorem RegDecides_walk (s : St) (hs : s.Ok) (a : Act) (ha : a.Ok) (w : World) (ht : Tab w) : Calls Tryd.prog 5 #[s.val, a.val] w fun e w' => e = .returned (.bool true) ∧ Below w.heap.size w w' := by
  have hask : a.ask.Ok := ⟨ha.source, ha.mode⟩
  have HD := Lib.hid (Decide_any s hs a.ask hask)
  have HR := Lib.hid (refDecide_any s hs a.ask hask)
  have HH := Lib.hid (Health_any s hs a.flags)
  have HI := Lib.hid (refHealth_any s hs a.flags)
  have HT := Lib.hid ht
  clear ht hask
  generalize decideS s a.ask = D at *
  generalize decideE s a.ask = dE at *
  generalize healthS s a.flags = H at *
  generalize healthE s a.flags = hE at *
  unfold Act.val
  unfold St.val Ask.val Act.ask at *
  simp only at *
  have De0 : (D.mode == D.mode) = true := by simp
  have De1 : (D.source == D.source) = true := by simp
  have De2 : (D.hold == D.hold) = true := by simp
  have De3 : (D.flags == D.flags) = true := by simp
  have De4 : (D.epoch == D.epoch) = true := by simp
  have He0 : (H.mode == H.mode) = true := by simp
  have He1 : (H.source == H.source) = true := by simp
  have He2 : (H.hold == H.hold) = true := by simp
  have He3 : (H.flags == H.flags) = true := by simp
  have He4 : (H.epoch == H.epoch) = true := by simp
  have q1 : (dE == dE) = true := by simp
  have q2 : (hE == hE) = true := by simp
  have Bs0 := Lib.hid ((blk_new' w (g := w.heap.size) (by simp) 24 #[.int .i64 s.mode, .int .i64 s.source, .bool s.hold, .int .i64 s.flags, .int .u64 s.epoch]).alloc (.cells #[.bool a.tell, .int .i64 a.flags, .int .i64 a.source, .int .i64 a.mode, .bool a.free] 38))
  have Ba0 := Lib.hid (blk_new' (w.alloc (.cells #[.int .i64 s.mode, .int .i64 s.source, .bool s.hold, .int .i64 s.flags, .int .u64 s.epoch] 24)) (g := w.heap.size + 1) (by simp) 38 #[.bool a.tell, .int .i64 a.flags, .int .i64 a.source, .int .i64 a.mode, .bool a.free])
  have L0 := Lib.hid (((Below.refl w.heap.size w).alloc (by first | exact Nat.le_refl _ | (simp; done) | (simp; omega)) (.cells #[.int .i64 s.mode, .int .i64 s.source, .bool s.hold, .int .i64 s.flags, .int .u64 s.epoch] 24)).alloc (by first | exact Nat.le_refl _ | (simp; done) | (simp; omega)) (.cells #[.bool a.tell, .int .i64 a.flags, .int .i64 a.source, .int .i64 a.mode, .bool a.free] 38))
  have T0 := Lib.hid (HT.out.below L0.out)
  go_enter Tryd.func5, Tryd.ntmps5
  go_wp2_with fail
  refine (HD.out _ T0.out).mono ?_; rintro e wq1 ⟨rfl, hb1⟩
  have Bs1 := Lib.hid (Bs0.out.bl hb1)
  have Ba1 := Lib.hid (Ba0.out.bl hb1)
  have L1 := Lib.hid (bl L0.out hb1)
  have T1 := Lib.hid (T0.out.below hb1)
  clear hb1 Bs0 Ba0 L0 T0
  have sq0 := Bs1.out.cell 0
  have sq1 := Bs1.out.cell 1
  have sq2 := Bs1.out.cell 2
  have sq3 := Bs1.out.cell 3
  have sq4 := Bs1.out.cell 4
  simp only [List.getElem?_toArray, List.getElem?_cons_succ, List.getElem?_cons_zero] at sq0 sq1 sq2 sq3 sq4
  have aq0 := Ba1.out.cell 0
  have aq1 := Ba1.out.cell 1
  have aq2 := Ba1.out.cell 2
  have aq3 := Ba1.out.cell 3
  have aq4 := Ba1.out.cell 4
  simp only [List.getElem?_toArray, List.getElem?_cons_succ, List.getElem?_cons_zero] at aq0 aq1 aq2 aq3 aq4
  have tge := Lib.hid (show w.heap.size ≤ wq1.heap.size from L1.out.size)
  have sn1 : ¬ w.heap.size = wq1.heap.size := by have := Bs1.out.lt; omega
  have stne := Lib.hid sn1
  have sn2 : w.heap.size < wq1.heap.size := Bs1.out.lt
  have an1 : ¬ (w.heap.size + 1) = wq1.heap.size := by have := Ba1.out.lt; omega
  have atne := Lib.hid an1
  have an2 : (w.heap.size + 1) < wq1.heap.size := Ba1.out.lt
  have As1 := Lib.hid (Bs1.out.alloc (.cells #[.int .i64 D.mode, .int .i64 D.source, .bool D.hold, .int .i64 D.flags, .int .u64 D.epoch] 24))
  have Aa1 := Lib.hid (Ba1.out.alloc (.cells #[.int .i64 D.mode, .int .i64 D.source, .bool D.hold, .int .i64 D.flags, .int .u64 D.epoch] 24))
  have Ta1 := Lib.hid (T1.out.below ((Below.refl _ _).alloc (Nat.le_refl _) (.cells #[.int .i64 D.mode, .int .i64 D.source, .bool D.hold, .int .i64 D.flags, .int .u64 D.epoch] 24)))
  have At1 := Lib.hid (Blk.new wq1 24 #[.int .i64 D.mode, .int .i64 D.source, .bool D.hold, .int .i64 D.flags, .int .u64 D.epoch])
  have M1 := Lib.hid (L1.out.alloc L1.out.size (.cells #[.int .i64 D.mode, .int .i64 D.source, .bool D.hold, .int .i64 D.flags, .int .u64 D.epoch] 24))
  clear Bs1 Ba1 L1 T1
  go_wp2_with fail
  refine (HR.out _).mono ?_; rintro e wq2 ⟨rfl, hb2⟩
  have Bs2 := Lib.hid (As1.out.bl hb2)
  have Ba2 := Lib.hid (Aa1.out.bl hb2)
  have Bt2 := Lib.hid (At1.out.bl hb2)
  have L2 := Lib.hid (bl M1.out hb2)
  have T2 := Lib.hid (Ta1.out.below hb2)
  clear sq0 sq1 sq2 sq3 sq4 aq0 aq1 aq2 aq3 aq4 sn1 sn2 an1 an2
  clear hb2 As1 Aa1 At1 M1 Ta1
  generalize wq1.heap.size = gt at tge stne atne Bt2 ⊢
  have sq0 := Bs2.out.cell 0
  have sq1 := Bs2.out.cell 1
  have sq2 := Bs2.out.cell 2
  have sq3 := Bs2.out.cell 3
  have sq4 := Bs2.out.cell 4
  simp only [List.getElem?_toArray, List.getElem?_cons_succ, List.getElem?_cons_zero] at sq0 sq1 sq2 sq3 sq4
  have aq0 := Ba2.out.cell 0
  have aq1 := Ba2.out.cell 1
  have aq2 := Ba2.out.cell 2
  have aq3 := Ba2.out.cell 3
  have aq4 := Ba2.out.cell 4
  simp only [List.getElem?_toArray, List.getElem?_cons_succ, List.getElem?_cons_zero] at aq0 aq1 aq2 aq3 aq4
  have tq0 := Bt2.out.cell 0
  have tq1 := Bt2.out.cell 1
  have tq2 := Bt2.out.cell 2
  have tq3 := Bt2.out.cell 3
  have tq4 := Bt2.out.cell 4
  simp only [List.getElem?_toArray, List.getElem?_cons_succ, List.getElem?_cons_zero] at tq0 tq1 tq2 tq3 tq4
  have uge := Lib.hid (show w.heap.size ≤ wq2.heap.size from L2.out.size)
  have sn1 : ¬ w.heap.size = wq2.heap.size := by have := Bs2.out.lt; omega
  have sune := Lib.hid sn1
  have sn2 : w.heap.size < wq2.heap.size := Bs2.out.lt
  have an1 : ¬ (w.heap.size + 1) = wq2.heap.size := by have := Ba2.out.lt; omega
  have aune := Lib.hid an1
  have an2 : (w.heap.size + 1) < wq2.heap.size := Ba2.out.lt
  have tn1 : ¬ gt = wq2.heap.size := by have := Bt2.out.lt; omega
  have tune := Lib.hid tn1
  have tn2 : gt < wq2.heap.size := Bt2.out.lt
  have As2 := Lib.hid (Bs2.out.alloc (.cells #[.int .i64 D.mode, .int .i64 D.source, .bool D.hold, .int .i64 D.flags, .int .u64 D.epoch] 24))
  have Aa2 := Lib.hid (Ba2.out.alloc (.cells #[.int .i64 D.mode, .int .i64 D.source, .bool D.hold, .int .i64 D.flags, .int .u64 D.epoch] 24))
  have At2 := Lib.hid (Bt2.out.alloc (.cells #[.int .i64 D.mode, .int .i64 D.source, .bool D.hold, .int .i64 D.flags, .int .u64 D.epoch] 24))
  have Ta2 := Lib.hid (T2.out.below ((Below.refl _ _).alloc (Nat.le_refl _) (.cells #[.int .i64 D.mode, .int .i64 D.source, .bool D.hold, .int .i64 D.flags, .int .u64 D.epoch] 24)))
  have Au2 := Lib.hid (Blk.new wq2 24 #[.int .i64 D.mode, .int .i64 D.source, .bool D.hold, .int .i64 D.flags, .int .u64 D.epoch])
  have M2 := Lib.hid (L2.out.alloc L2.out.size (.cells #[.int .i64 D.mode, .int .i64 D.source, .bool D.hold, .int .i64 D.flags, .int .u64 D.epoch] 24))
  clear Bs2 Ba2 Bt2 L2 T2
  go_wp2_with fail
  refine (HH.out _).mono ?_; rintro e wq3 ⟨rfl, hb3⟩
  have Bs3 := Lib.hid (As2.out.bl hb3)
  have Ba3 := Lib.hid (Aa2.out.bl hb3)
  have Bt3 := Lib.hid (At2.out.bl hb3)
  have Bu3 := Lib.hid (Au2.out.bl hb3)
  have L3 := Lib.hid (bl M2.out hb3)
  have T3 := Lib.hid (Ta2.out.below hb3)
  clear sq0 sq1 sq2 sq3 sq4 aq0 aq1 aq2 aq3 aq4 tq0 tq1 tq2 tq3 tq4 sn1 sn2 an1 an2 tn1 tn2
  clear hb3 As2 Aa2 At2 Au2 M2 Ta2
  generalize wq2.heap.size = gu at uge sune aune tune Bu3 ⊢
  have sq0 := Bs3.out.cell 0
  have sq1 := Bs3.out.cell 1
  have sq2 := Bs3.out.cell 2
  have sq3 := Bs3.out.cell 3
  have sq4 := Bs3.out.cell 4
  simp only [List.getElem?_toArray, List.getElem?_cons_succ, List.getElem?_cons_zero] at sq0 sq1 sq2 sq3 sq4
  have aq0 := Ba3.out.cell 0
  have aq1 := Ba3.out.cell 1
  have aq2 := Ba3.out.cell 2
  have aq3 := Ba3.out.cell 3
  have aq4 := Ba3.out.cell 4
  simp only [List.getElem?_toArray, List.getElem?_cons_succ, List.getElem?_cons_zero] at aq0 aq1 aq2 aq3 aq4
  have tq0 := Bt3.out.cell 0
  have tq1 := Bt3.out.cell 1
  have tq2 := Bt3.out.cell 2
  have tq3 := Bt3.out.cell 3
  have tq4 := Bt3.out.cell 4
  simp only [List.getElem?_toArray, List.getElem?_cons_succ, List.getElem?_cons_zero] at tq0 tq1 tq2 tq3 tq4
  have uq0 := Bu3.out.cell 0
  have uq1 := Bu3.out.cell 1
  have uq2 := Bu3.out.cell 2
  have uq3 := Bu3.out.cell 3
  have uq4 := Bu3.out.cell 4
  simp only [List.getElem?_toArray, List.getElem?_cons_succ, List.getElem?_cons_zero] at uq0 uq1 uq2 uq3 uq4
  have vge := Lib.hid (show w.heap.size ≤ wq3.heap.size from L3.out.size)
  have sn1 : ¬ w.heap.size = wq3.heap.size := by have := Bs3.out.lt; omega
  have svne := Lib.hid sn1
  have sn2 : w.heap.size < wq3.heap.size := Bs3.out.lt
  have an1 : ¬ (w.heap.size + 1) = wq3.heap.size := by have := Ba3.out.lt; omega
  have avne := Lib.hid an1
  have an2 : (w.heap.size + 1) < wq3.heap.size := Ba3.out.lt
  have tn1 : ¬ gt = wq3.heap.size := by have := Bt3.out.lt; omega
  have tvne := Lib.hid tn1
  have tn2 : gt < wq3.heap.size := Bt3.out.lt
  have un1 : ¬ gu = wq3.heap.size := by have := Bu3.out.lt; omega
  have uvne := Lib.hid un1
  have un2 : gu < wq3.heap.size := Bu3.out.lt
  have As3 := Lib.hid (Bs3.out.alloc (.cells #[.int .i64 H.mode, .int .i64 H.source, .bool H.hold, .int .i64 H.flags, .int .u64 H.epoch] 24))
  have Aa3 := Lib.hid (Ba3.out.alloc (.cells #[.int .i64 H.mode, .int .i64 H.source, .bool H.hold, .int .i64 H.flags, .int .u64 H.epoch] 24))
  have At3 := Lib.hid (Bt3.out.alloc (.cells #[.int .i64 H.mode, .int .i64 H.source, .bool H.hold, .int .i64 H.flags, .int .u64 H.epoch] 24))
  have Au3 := Lib.hid (Bu3.out.alloc (.cells #[.int .i64 H.mode, .int .i64 H.source, .bool H.hold, .int .i64 H.flags, .int .u64 H.epoch] 24))
  have Ta3 := Lib.hid (T3.out.below ((Below.refl _ _).alloc (Nat.le_refl _) (.cells #[.int .i64 H.mode, .int .i64 H.source, .bool H.hold, .int .i64 H.flags, .int .u64 H.epoch] 24)))
  have Av3 := Lib.hid (Blk.new wq3 24 #[.int .i64 H.mode, .int .i64 H.source, .bool H.hold, .int .i64 H.flags, .int .u64 H.epoch])
  have M3 := Lib.hid (L3.out.alloc L3.out.size (.cells #[.int .i64 H.mode, .int .i64 H.source, .bool H.hold, .int .i64 H.flags, .int .u64 H.epoch] 24))
  clear Bs3 Ba3 Bt3 Bu3 L3 T3
  go_wp2_with fail
  refine (HI.out _).mono ?_; rintro e wq4 ⟨rfl, hb4⟩
  have Bs4 := Lib.hid (As3.out.bl hb4)
  have Ba4 := Lib.hid (Aa3.out.bl hb4)
  have Bt4 := Lib.hid (At3.out.bl hb4)
  have Bu4 := Lib.hid (Au3.out.bl hb4)
  have Bv4 := Lib.hid (Av3.out.bl hb4)
  have L4 := Lib.hid (bl M3.out hb4)
  have T4 := Lib.hid (Ta3.out.below hb4)
  clear sq0 sq1 sq2 sq3 sq4 aq0 aq1 aq2 aq3 aq4 tq0 tq1 tq2 tq3 tq4 uq0 uq1 uq2 uq3 uq4 sn1 sn2 an1 an2 tn1 tn2 un1 un2
  clear hb4 As3 Aa3 At3 Au3 Av3 M3 Ta3
  generalize wq3.heap.size = gv at vge svne avne tvne uvne Bv4 ⊢
  have sq0 := Bs4.out.cell 0
  have sq1 := Bs4.out.cell 1
  have sq2 := Bs4.out.cell 2
  have sq3 := Bs4.out.cell 3
  have sq4 := Bs4.out.cell 4
  simp only [List.getElem?_toArray, List.getElem?_cons_succ, List.getElem?_cons_zero] at sq0 sq1 sq2 sq3 sq4
  have aq0 := Ba4.out.cell 0
  have aq1 := Ba4.out.cell 1
  have aq2 := Ba4.out.cell 2
  have aq3 := Ba4.out.cell 3
  have aq4 := Ba4.out.cell 4
  simp only [List.getElem?_toArray, List.getElem?_cons_succ, List.getElem?_cons_zero] at aq0 aq1 aq2 aq3 aq4
  have tq0 := Bt4.out.cell 0
  have tq1 := Bt4.out.cell 1
  have tq2 := Bt4.out.cell 2
  have tq3 := Bt4.out.cell 3
  have tq4 := Bt4.out.cell 4
  simp only [List.getElem?_toArray, List.getElem?_cons_succ, List.getElem?_cons_zero] at tq0 tq1 tq2 tq3 tq4
  have uq0 := Bu4.out.cell 0
  have uq1 := Bu4.out.cell 1
  have uq2 := Bu4.out.cell 2
  have uq3 := Bu4.out.cell 3
  have uq4 := Bu4.out.cell 4
  simp only [List.getElem?_toArray, List.getElem?_cons_succ, List.getElem?_cons_zero] at uq0 uq1 uq2 uq3 uq4
  have vq0 := Bv4.out.cell 0
  have vq1 := Bv4.out.cell 1
  have vq2 := Bv4.out.cell 2
  have vq3 := Bv4.out.cell 3
  have vq4 := Bv4.out.cell 4
  simp only [List.getElem?_toArray, List.getElem?_cons_succ, List.getElem?_cons_zero] at vq0 vq1 vq2 vq3 vq4
  have xge := Lib.hid (show w.heap.size ≤ wq4.heap.size from L4.out.size)
  have sn1 : ¬ w.heap.size = wq4.heap.size := by have := Bs4.out.lt; omega
  have sxne := Lib.hid sn1
  have sn2 : w.heap.size < wq4.heap.size := Bs4.out.lt
  have an1 : ¬ (w.heap.size + 1) = wq4.heap.size := by have := Ba4.out.lt; omega
  have axne := Lib.hid an1
  have an2 : (w.heap.size + 1) < wq4.heap.size := Ba4.out.lt
  have tn1 : ¬ gt = wq4.heap.size := by have := Bt4.out.lt; omega
  have txne := Lib.hid tn1
  have tn2 : gt < wq4.heap.size := Bt4.out.lt
  have un1 : ¬ gu = wq4.heap.size := by have := Bu4.out.lt; omega
  have uxne := Lib.hid un1
  have un2 : gu < wq4.heap.size := Bu4.out.lt
  have vn1 : ¬ gv = wq4.heap.size := by have := Bv4.out.lt; omega
  have vxne := Lib.hid vn1
  have vn2 : gv < wq4.heap.size := Bv4.out.lt
  have As4 := Lib.hid (Bs4.out.alloc (.cells #[.int .i64 H.mode, .int .i64 H.source, .bool H.hold, .int .i64 H.flags, .int .u64 H.epoch] 24))
  have Aa4 := Lib.hid (Ba4.out.alloc (.cells #[.int .i64 H.mode, .int .i64 H.source, .bool H.hold, .int .i64 H.flags, .int .u64 H.epoch] 24))
  have At4 := Lib.hid (Bt4.out.alloc (.cells #[.int .i64 H.mode, .int .i64 H.source, .bool H.hold, .int .i64 H.flags, .int .u64 H.epoch] 24))
  have Au4 := Lib.hid (Bu4.out.alloc (.cells #[.int .i64 H.mode, .int .i64 H.source, .bool H.hold, .int .i64 H.flags, .int .u64 H.epoch] 24))
  have Av4 := Lib.hid (Bv4.out.alloc (.cells #[.int .i64 H.mode, .int .i64 H.source, .bool H.hold, .int .i64 H.flags, .int .u64 H.epoch] 24))
  have Ta4 := Lib.hid (T4.out.below ((Below.refl _ _).alloc (Nat.le_refl _) (.cells #[.int .i64 H.mode, .int .i64 H.source, .bool H.hold, .int .i64 H.flags, .int .u64 H.epoch] 24)))
  have Ax4 := Lib.hid (Blk.new wq4 24 #[.int .i64 H.mode, .int .i64 H.source, .bool H.hold, .int .i64 H.flags, .int .u64 H.epoch])
  have M4 := Lib.hid (L4.out.alloc L4.out.size (.cells #[.int .i64 H.mode, .int .i64 H.source, .bool H.hold, .int .i64 H.flags, .int .u64 H.epoch] 24))
  clear Bs4 Ba4 Bt4 Bu4 Bv4 L4 T4
  go_wp2_with fail
  refine (awake_any _ Ta4.out).mono ?_; rintro e wq5 ⟨rfl, hb5⟩
  have Bs5 := Lib.hid (As4.out.bl hb5)
  have Ba5 := Lib.hid (Aa4.out.bl hb5)
  have Bt5 := Lib.hid (At4.out.bl hb5)
  have Bu5 := Lib.hid (Au4.out.bl hb5)
  have Bv5 := Lib.hid (Av4.out.bl hb5)
  have Bx5 := Lib.hid (Ax4.out.bl hb5)
  have L5 := Lib.hid (bl M4.out hb5)
  have T5 := Lib.hid (Ta4.out.below hb5)
  clear sq0 sq1 sq2 sq3 sq4 aq0 aq1 aq2 aq3 aq4 tq0 tq1 tq2 tq3 tq4 uq0 uq1 uq2 uq3 uq4 vq0 vq1 vq2 vq3 vq4 sn1 sn2 an1 an2 tn1 tn2 un1 un2 vn1 vn2
  clear hb5 As4 Aa4 At4 Au4 Av4 Ax4 M4 Ta4
  generalize wq4.heap.size = gx at xge sxne axne txne uxne vxne Bx5 ⊢
  have sq0 := Bs5.out.cell 0
  have sq1 := Bs5.out.cell 1
  have sq2 := Bs5.out.cell 2
  have sq3 := Bs5.out.cell 3
  have sq4 := Bs5.out.cell 4
  simp only [List.getElem?_toArray, List.getElem?_cons_succ, List.getElem?_cons_zero] at sq0 sq1 sq2 sq3 sq4
  have aq0 := Ba5.out.cell 0
  have aq1 := Ba5.out.cell 1
  have aq2 := Ba5.out.cell 2
  have aq3 := Ba5.out.cell 3
  have aq4 := Ba5.out.cell 4
  simp only [List.getElem?_toArray, List.getElem?_cons_succ, List.getElem?_cons_zero] at aq0 aq1 aq2 aq3 aq4
  have tq0 := Bt5.out.cell 0
  have tq1 := Bt5.out.cell 1
  have tq2 := Bt5.out.cell 2
  have tq3 := Bt5.out.cell 3
  have tq4 := Bt5.out.cell 4
  simp only [List.getElem?_toArray, List.getElem?_cons_succ, List.getElem?_cons_zero] at tq0 tq1 tq2 tq3 tq4
  have uq0 := Bu5.out.cell 0
  have uq1 := Bu5.out.cell 1
  have uq2 := Bu5.out.cell 2
  have uq3 := Bu5.out.cell 3
  have uq4 := Bu5.out.cell 4
  simp only [List.getElem?_toArray, List.getElem?_cons_succ, List.getElem?_cons_zero] at uq0 uq1 uq2 uq3 uq4
  have vq0 := Bv5.out.cell 0
  have vq1 := Bv5.out.cell 1
  have vq2 := Bv5.out.cell 2
  have vq3 := Bv5.out.cell 3
  have vq4 := Bv5.out.cell 4
  simp only [List.getElem?_toArray, List.getElem?_cons_succ, List.getElem?_cons_zero] at vq0 vq1 vq2 vq3 vq4
  have xq0 := Bx5.out.cell 0
  have xq1 := Bx5.out.cell 1
  have xq2 := Bx5.out.cell 2
  have xq3 := Bx5.out.cell 3
  have xq4 := Bx5.out.cell 4
  simp only [List.getElem?_toArray, List.getElem?_cons_succ, List.getElem?_cons_zero] at xq0 xq1 xq2 xq3 xq4
  go_wp2_with fail
  go_ret
  exact ⟨rfl, L5.out⟩
end Go.Proofs.YtjnhmoafljfnkaaDoor.Reg
